/- Regm, Hsum, Sum, Regv, Eqs, Refa, Refw, Refs, Refh, Known: several texts in one. -/
import Derived.Test.YtapojpjmeadabaaZPure
import Derived.ChangeKeysEq
import Derived.Lib.SlBytesConst
section
/- The region theorem with the frame written out: slots that hold one value, and slots of which only a predicate is known. -/
namespace Go.Proofs.Ytapojpjmeadabaa
open Go.RowKit
set_option linter.unusedVariables false
set_option linter.unusedSimpArgs false

abbrev Opq := List (Nat × (Value → World → Prop))
def Opq.at (M : Opq) (t : Nat) : Option (Value → World → Prop) := (M.find? (·.1 == t)).map (·.2)
def Opq.off (M : Opq) (dst : Option Tmp) : Opq := match dst with | some d => M.filter (·.1 != d) | none => M
def slotM (M : Opq) (t : Nat) (x : Value) : Sl := match M.at t with | some R => .p R | none => .v x
def envFrom (M : Opq) : Nat → List Value → List Sl
  | _, [] => []
  | k, x :: r => slotM M k x :: envFrom M (k + 1) r
def envM (a : Act) (M : Opq) : List Sl := envFrom M 0 a.tmps.toList
theorem envFrom_length (M : Opq) : ∀ (k : Nat) (l : List Value), (envFrom M k l).length = l.length
  | _, [] => rfl
  | k, x :: r => by simp [envFrom, envFrom_length M (k + 1) r]
theorem envFrom_get (M : Opq) : ∀ (k : Nat) (l : List Value) (t : Nat), (envFrom M k l)[t]? = (l[t]?).map (slotM M (k + t))
  | _, [], t => by simp [envFrom]
  | k, x :: r, 0 => by simp [envFrom]
  | k, x :: r, t + 1 => by simp only [envFrom, List.getElem?_cons_succ]; rw [envFrom_get M (k + 1) r t, show k + 1 + t = k + (t + 1) by omega]
theorem envM_nil (a : Act) : envM a [] = a.tmps.toList.map .v := by
  apply List.ext_getElem?
  intro t
  unfold envM
  rw [envFrom_get, List.getElem?_map]
  rfl
theorem Opq.at_off (M : Opq) (d t : Nat) : (M.off (some d)).at t = if t = d then none else M.at t := by
  simp only [Opq.off, Opq.at]
  induction M with
  | nil => simp
  | cons p M ih =>
    simp only [List.filter_cons, List.find?_cons]
    by_cases hp : p.1 = d
    · simp only [hp, bne_self_eq_false, Bool.false_eq_true, if_false]
      rw [ih]
      by_cases ht : t = d
      · simp [ht]
      · have h2 : (d == t) = false := by simpa using Ne.symm ht
        simp [ht, h2]
    · have : (p.1 != d) = true := by simpa using hp
      simp only [this, if_true, List.find?_cons]
      by_cases ht : p.1 = t
      · have htd : t ≠ d := fun e => hp (ht.trans e)
        simp [ht, htd]
      · have : (p.1 == t) = false := by simpa using ht
        simp only [this]
        exact ih
theorem slotM_off (M : Opq) (d t : Nat) (x : Value) : slotM (M.off (some d)) t x = if t = d then .v x else slotM M t x := by
  unfold slotM
  rw [Opq.at_off]
  by_cases h : t = d <;> simp [h]
theorem slotM_cons (M : Opq) (d t : Nat) (R : Value → World → Prop) (x : Value) : slotM ((d, R) :: M.off (some d)) t x = if d = t then .p R else slotM M t x := by
  by_cases hd : d = t
  · simp [slotM, Opq.at, hd]
  · have h := slotM_off M d t x
    rw [if_neg (fun e => hd e.symm)] at h
    have h2 : (d == t) = false := by simpa using hd
    rw [if_neg hd, ← h]
    simp only [slotM, Opq.at, List.find?_cons, h2]
theorem envM_put_v (a : Act) (M : Opq) (dst : Option Tmp) (v : Value) : envPut (envM a M) dst (.v v) = envM (a.put dst v) (M.off dst) := by
  cases dst with
  | none => rfl
  | some d =>
    apply List.ext_getElem?
    intro t
    have e1 : (envPut (envM a M) (some d) (.v v))[t]? = if d = t then (if d < a.tmps.toList.length then some (Sl.v v) else none) else (a.tmps.toList[t]?).map (slotM M t) := by
      simp only [envPut, envM, List.getElem?_set, envFrom_length, envFrom_get, Nat.zero_add]
    have e2 : (envM (a.put (some d) v) (M.off (some d)))[t]? = (if d = t then (if d < a.tmps.toList.length then some v else none) else a.tmps.toList[t]?).map (slotM (M.off (some d)) t) := by
      simp only [envM, envFrom_get, Nat.zero_add, Act.put, Array.toList_setIfInBounds, List.getElem?_set]
    rw [e1, e2]
    by_cases hd : d = t
    · subst hd
      rw [if_pos rfl, if_pos rfl]
      by_cases hl : d < a.tmps.toList.length
      · rw [if_pos hl, if_pos hl, Option.map_some, slotM_off, if_pos rfl]
      · rw [if_neg hl, if_neg hl, Option.map_none]
    · rw [if_neg hd, if_neg hd]
      cases a.tmps.toList[t]? with
      | none => rfl
      | some x => rw [Option.map_some, Option.map_some, slotM_off, if_neg (fun e => hd e.symm)]
theorem envM_put_p (a : Act) (M : Opq) (d : Tmp) (R : Value → World → Prop) : envPut (envM a M) (some d) (.p R) = envM (a.put (some d) undef) ((d, R) :: M.off (some d)) := by
  apply List.ext_getElem?
  intro t
  have e1 : (envPut (envM a M) (some d) (.p R))[t]? = if d = t then (if d < a.tmps.toList.length then some (Sl.p R) else none) else (a.tmps.toList[t]?).map (slotM M t) := by
    simp only [envPut, envM, List.getElem?_set, envFrom_length, envFrom_get, Nat.zero_add]
  have e2 : (envM (a.put (some d) undef) ((d, R) :: M.off (some d)))[t]? = (if d = t then (if d < a.tmps.toList.length then some undef else none) else a.tmps.toList[t]?).map (slotM ((d, R) :: M.off (some d)) t) := by
    simp only [envM, envFrom_get, Nat.zero_add, Act.put, Array.toList_setIfInBounds, List.getElem?_set]
  rw [e1, e2]
  by_cases hd : d = t
  · subst hd
    rw [if_pos rfl, if_pos rfl]
    by_cases hl : d < a.tmps.toList.length
    · rw [if_pos hl, if_pos hl, Option.map_some, slotM_cons, if_pos rfl]
    · rw [if_neg hl, if_neg hl, Option.map_none]
  · rw [if_neg hd, if_neg hd]
    cases a.tmps.toList[t]? with
    | none => rfl
    | some x => rw [Option.map_some, Option.map_some, slotM_cons, if_neg hd]

/-- The frame 'a' with the opaque slots filled. -/
theorem fillA_envM (xs : Nat → Value) (a : Act) (M : Opq) (t : Nat) : (fillA xs (envM a M) a.defers).tmps[t]? = (a.tmps[t]?).map fun x => match M.at t with | some _ => xs t | none => x := by
  simp only [fillA, List.getElem?_toArray, fillFrom_get, envM, envFrom_get, Nat.zero_add, Option.map_map, Array.getElem?_toList]
  congr 1
  funext x
  simp only [Function.comp, slotM]
  cases M.at t <;> rfl
def noLook (ops : Array Oper) (o : Oper) (M : Opq) : Bool := (o.looksAt ops).all fun t => !(M.any (·.1 == t))
theorem noLook_at {ops : Array Oper} {o : Oper} {M : Opq} (h : noLook ops o M = true) {t : Tmp} (ht : t ∈ o.looksAt ops) : M.at t = none := by
  have := List.all_eq_true.1 h t ht
  simp only [Bool.not_eq_true'] at this
  unfold Opq.at
  have h2 : M.find? (·.1 == t) = none := by
    rw [List.find?_eq_none]
    intro p hp
    have := List.any_eq_false.1 this p hp
    simpa using this
  rw [h2]
  rfl
theorem looks_operand {ops : Array Oper} {o : Oper} {t : Tmp} (h : Operand.tmp t ∈ o.op.operands) : t ∈ o.looksAt ops :=
  List.mem_append_left _ (List.mem_filterMap.2 ⟨.tmp t, by simpa using h, rfl⟩)
theorem eval_same {ops : Array Oper} {o : Oper} {M : Opq} (a : Act) (xs : Nat → Value) (h : noLook ops o M = true) : ∀ x ∈ o.op.operands, (fillA xs (envM a M) a.defers).eval x = a.eval x := by
  intro x hx
  cases x with
  | tmp t =>
    have hat := noLook_at h (looks_operand hx)
    have hD : ∀ b : Array Value, b.getD t undef = (b[t]?).getD undef := fun b => by simp
    have e := fillA_envM xs a M t
    rw [hat] at e
    show (fillA xs (envM a M) a.defers).tmps.getD t undef = a.tmps.getD t undef
    rw [hD, hD, e]
    cases a.tmps[t]? <;> rfl
  | _ => rfl
theorem wanted_same {ops : Array Oper} {o : Oper} {M : Opq} (a : Act) (xs : Nat → Value) (h : noLook ops o M = true) :
    Region.wanted o (yielded ops (fillA xs (envM a M) a.defers).tmps) = Region.wanted o (yielded ops a.tmps) := by
  unfold Region.wanted
  cases hg : o.guard with
  | none => rfl
  | some gw =>
    obtain ⟨g, want⟩ := gw
    have hy : yielded ops (fillA xs (envM a M) a.defers).tmps g = yielded ops a.tmps g := by
      unfold yielded
      cases ht : (ops[g]?).bind (·.dst) with
      | none => rfl
      | some t =>
        have hl : t ∈ o.looksAt ops := by simp [Oper.looksAt, hg, ht]
        have e := fillA_envM xs a M t
        rw [noLook_at h hl] at e
        have e2 : (fillA xs (envM a M) a.defers).tmps[t]? = a.tmps[t]? := by rw [e]; cases a.tmps[t]? <;> rfl
        simp only [Option.bind_some, e2]
    simp only [hy]

/-- Operations that never enter a function. -/
def plainB (o : Oper) : Bool := match o.op with
  | .move _ | .assign _ | .pick .. | .alloc _ | .box .. | .build .. | .buildSlice .. | .load .. | .store .. | .nilCheck _ | .binOp .. | .unOp .. | .convert .. | .sliceToArrayPointer .. | .slice .. | .fieldAddr .. | .field .. | .indexAddr .. | .index .. | .lookup .. | .extract .. => true
  | .call { callee := .builtin .len, .. } | .call { callee := .builtin .append, .. } | .call { callee := .builtin .copy, .. } => true
  | _ => false
theorem bind_noEnter {α : Type} (P : Program) (w : World) (s : Sem α) (k : α → Sem Next) (hk : ∀ v w f args w', (k v).run P w ≠ .ok (.enter f args) w') (f : FuncId) (args : Array Value) (w' : World) : (s >>= k).run P w ≠ .ok (.enter f args) w' := by
  rw [Sem.run_bind]
  cases s.run P w with
  | ok v w1 => exact hk v w1 f args w'
  | halt h w1 => intro e; cases e
theorem value_noEnter (P : Program) (w : World) (v : Value) (f : FuncId) (args : Array Value) (w' : World) : (pure (Next.value v) : Sem Next).run P w ≠ .ok (.enter f args) w' := by
  intro e; cases e
theorem skip_noEnter (P : Program) (w : World) (f : FuncId) (args : Array Value) (w' : World) : (pure Next.skip : Sem Next).run P w ≠ .ok (.enter f args) w' := by
  intro e; cases e
theorem plain_noEnter (P : Program) (ρ : Operand → Value) (o : Oper) (h : plainB o = true) (w : World) (f : FuncId) (args : Array Value) (w' : World) : (execOp ρ o).run P w ≠ .ok (.enter f args) w' := by
  obtain ⟨dst, op, type, pos, after, guard⟩ := o
  unfold plainB at h
  cases op <;> simp only [Bool.false_eq_true] at h <;> simp only [execOp]
  case move x => exact value_noEnter _ _ _ _ _ _
  case assign x => exact value_noEnter _ _ _ _ _ _
  case store t a x => exact bind_noEnter _ _ _ _ (fun _ _ _ _ _ => skip_noEnter _ _ _ _ _) _ _ _
  case nilCheck x =>
    split
    · intro e; cases e
    · intro e; cases e
    · intro e; cases e
    · split
      · intro e; cases e
      · refine bind_noEnter _ _ _ _ (fun _ _ _ _ _ => ?_) _ _ _
        refine bind_noEnter _ _ _ _ (fun _ _ _ _ _ => ?_) _ _ _
        split
        · refine bind_noEnter _ _ _ _ (fun _ _ _ _ _ => ?_) _ _ _
          exact value_noEnter _ _ _ _ _ _
        · exact value_noEnter _ _ _ _ _ _
      · exact value_noEnter _ _ _ _ _ _
    · exact value_noEnter _ _ _ _ _ _
  case call c =>
    obtain ⟨callee, xs, ts⟩ := c
    cases callee with
    | value x => simp at h
    | invoke x m => simp at h
    | builtin b =>
      cases b <;> simp only [Bool.false_eq_true] at h
      all_goals exact bind_noEnter _ _ _ _ (fun _ _ _ _ _ => value_noEnter _ _ _ _ _ _) _ _ _
  all_goals exact bind_noEnter _ _ _ _ (fun _ _ _ _ _ => value_noEnter _ _ _ _ _ _) _ _ _

section
variable {P : Program} {ops : Array Oper} {w0 : World} {QG : List Sl → Prop} {rest : List Oper} {o : Oper} {a : Act} {M : Opq} {ds : List Deferred}
abbrev gCls (w0 : World) : Cls := Cls.grown w0
theorem gYields_same (hsel : ∀ cs b, o.op ≠ .select cs b) (hl : noLook ops o M = true) {s : Sl} (hs : s.stable (gCls w0)) (h : ∀ w, Ext w0 w → gStep P (gCls w0) ops o a w s) :
    gYields P ops (gCls w0) a.defers o s (envM a M) :=
  ⟨hs, fun xs w hC _ => by
    unfold gStep
    rw [wanted_same a xs hl, execOp_congr o hsel (eval_same a xs hl)]
    exact h w hC⟩
theorem put_defers (a : Act) (d : Option Tmp) (v : Value) : (a.put d v).defers = a.defers := by cases d <;> rfl

/-- An operation that is no call, and looks at written-out slots alone: by the quiet walk's own step. -/
theorem gm_q (hd : a.defers = ds) (hw : Region.wanted o (yielded ops a.tmps) = true) (hl : noLook ops o M = true) (hp : plainB o = true)
    (h : ∀ K : Act → Prop, (∀ a', wpG P ops (gCls w0) ds QG rest (envM a' (M.off o.dst)) → K a') → o.quiet P a (fun w' => ∃ x : Grow w0, w' = w0.ext x) K) : wpG P ops (gCls w0) ds QG (o :: rest) (envM a M) := by
  subst hd
  obtain ⟨v, h1, h2⟩ := h (fun a' => wpG P ops (gCls w0) a.defers QG rest (envM a' (M.off o.dst))) (fun _ h => h)
  refine ⟨.v v, gYields_same (fun cs b h => by simp [plainB, h] at hp) hl (Sl.stable_v _ v) (fun w hC => ?_), by rw [envM_put_v]; exact h2⟩
  unfold gStep
  rw [if_pos hw]
  have h3 := h1 w (mk_ext hC)
  have h4 := plain_noEnter P a.eval o hp w
  unfold Oper.quietAt at h3
  generalize (execOp a.eval o).run P w = r at *
  cases r with
  | ok n w' =>
    cases n <;> simp only [Oper.quietUpon] at h3 <;> simp only [gUpon]
    case value u => obtain ⟨rfl, rfl⟩ := h3; exact ⟨rfl, Ext.refl _, hC⟩
    case skip => obtain ⟨rfl, rfl⟩ := h3; exact ⟨rfl, Ext.refl _, hC⟩
    case enter f args => exact absurd rfl (h4 f args w')
  | halt x w' => simp only [Oper.quietUpon] at h3
def notSelB (o : Oper) : Bool := match o.op with | .select .. => false | _ => true
theorem notSel {o : Oper} (h : notSelB o = true) : ∀ cs b, o.op ≠ .select cs b := fun cs b e => by simp [notSelB, e] at h
/-- An operation whose guard says no. -/
theorem gm_skip (hd : a.defers = ds) (hw : Region.wanted o (yielded ops a.tmps) = false) (hsel : notSelB o = true) (hl : noLook ops o M = true)
    (h : wpG P ops (gCls w0) ds QG rest (envM (a.put o.dst undef) (M.off o.dst))) : wpG P ops (gCls w0) ds QG (o :: rest) (envM a M) := by
  subst hd
  exact ⟨.v undef, gYields_same (notSel hsel) hl (Sl.stable_v _ _) (fun w hC => by unfold gStep; rw [if_neg (by rw [hw]; exact Bool.false_ne_true)]; rfl), by rw [envM_put_v]; exact h⟩

/-- A call, looking at written-out slots alone, that comes to one value. -/
theorem gm_c (hd : a.defers = ds) (hw : Region.wanted o (yielded ops a.tmps) = true) (hsel : notSelB o = true) (hl : noLook ops o M = true) (f : FuncId) (args : Array Value)
    (hr : ∀ w, (execOp a.eval o).run P w = .ok (.enter f args) w) (v : Value)
    (hc : ∀ x : Grow w0, Calls P f args (w0.ext x) fun e w'' => e = .returned v ∧ Ext (w0.ext x) w'')
    (h : wpG P ops (gCls w0) ds QG rest (envM (a.put o.dst v) (M.off o.dst))) : wpG P ops (gCls w0) ds QG (o :: rest) (envM a M) := by
  subst hd
  exact ⟨.v v, gYields_same (notSel hsel) hl (Sl.stable_v _ _) (fun w hC => by
    unfold gStep
    rw [if_pos hw, hr w]
    obtain ⟨x, rfl⟩ := mk_ext hC
    exact ⟨Ext.refl _, (hc x).mono fun e w'' ⟨he, hx⟩ => ⟨v, he, rfl, hx, hC.trans hx⟩⟩), by rw [envM_put_v]; exact h⟩

/-- A call whose value is known by a predicate. -/
theorem gm_cp (hds : a.defers = ds) (hw : Region.wanted o (yielded ops a.tmps) = true) (hsel : notSelB o = true) (hl : noLook ops o M = true) (f : FuncId) (args : Array Value)
    (hr : ∀ w, (execOp a.eval o).run P w = .ok (.enter f args) w) (d : Tmp) (hd : o.dst = some d) (R : Value → World → Prop) (hR : ∀ u w w', Ext w w' → R u w → R u w')
    (hc : ∀ x : Grow w0, Calls P f args (w0.ext x) fun e w'' => ∃ u, e = .returned u ∧ R u w'' ∧ Ext (w0.ext x) w'')
    (h : wpG P ops (gCls w0) ds QG rest (envM (a.put (some d) undef) ((d, R) :: M.off (some d)))) : wpG P ops (gCls w0) ds QG (o :: rest) (envM a M) := by
  subst hds
  exact ⟨.p R, gYields_same (notSel hsel) hl hR (fun w hC => by
    unfold gStep
    rw [if_pos hw, hr w]
    obtain ⟨x, rfl⟩ := mk_ext hC
    exact ⟨Ext.refl _, (hc x).mono fun e w'' ⟨u, he, hu, hx⟩ => ⟨u, he, hu, hx, hC.trans hx⟩⟩), by rw [hd, envM_put_p]; exact h⟩

def fillM (a : Act) (xs : Nat → Value) : Opq → Act
  | [] => a
  | (t, _) :: M => (fillM a xs M).put (some t) (xs t)
theorem fillM_get (a : Act) (xs : Nat → Value) : ∀ (M : Opq) (t : Nat), (fillM a xs M).tmps[t]? = (a.tmps[t]?).map fun x => match M.at t with | some _ => xs t | none => x
  | [], t => by simp [fillM, Opq.at]
  | (d, R) :: M, t => by
    simp only [fillM, Act.put, Array.getElem?_setIfInBounds]
    have hs : (fillM a xs M).tmps.size = a.tmps.size := by
      induction M with
      | nil => rfl
      | cons p M ih => simp [fillM, Act.put, ih]
    rw [fillM_get a xs M t, hs]
    by_cases hd : d = t
    · subst hd
      have : Opq.at ((d, R) :: M) d = some R := by simp [Opq.at]
      rw [if_pos rfl, this]
      by_cases hl : d < a.tmps.size <;> simp [hl]
    · have : Opq.at ((d, R) :: M) t = Opq.at M t := by
        have h2 : (d == t) = false := by simpa using hd
        simp only [Opq.at, List.find?_cons, h2]
      rw [if_neg hd, this]
theorem fillM_defers (a : Act) (xs : Nat → Value) : ∀ M : Opq, (fillM a xs M).defers = a.defers
  | [] => rfl
  | (d, R) :: M => fillM_defers a xs M
theorem fillA_fillM (a : Act) (xs : Nat → Value) (M : Opq) : fillA xs (envM a M) a.defers = fillM a xs M := by
  have h1 : (fillA xs (envM a M) a.defers).tmps = (fillM a xs M).tmps := by
    apply Array.ext_getElem?
    intro t
    rw [fillA_envM, fillM_get]
  have h2 : (fillA xs (envM a M) a.defers).defers = (fillM a xs M).defers := by rw [fillM_defers]; rfl
  cases h3 : fillA xs (envM a M) a.defers
  cases h4 : fillM a xs M
  rw [h3, h4] at h1 h2
  simp only at h1 h2
  rw [h1, h2]

/-- Any operation, its slots' predicates at hand. -/
theorem gm_op (hds : a.defers = ds) (s : Sl) (hs : s.stable (gCls w0))
    (hst : ∀ (xs : Nat → Value) (x : Grow w0), (∀ t ∈ o.looksAt ops, t < a.tmps.size → ∀ R, M.at t = some R → R (xs t) (w0.ext x)) → gStep P (gCls w0) ops o (fillM a xs M) (w0.ext x) s)
    (h : wpG P ops (gCls w0) ds QG rest (envPut (envM a M) o.dst s)) : wpG P ops (gCls w0) ds QG (o :: rest) (envM a M) := by
  subst hds
  exact ⟨s, ⟨hs, fun xs w hC hk => by
    obtain ⟨x, rfl⟩ := mk_ext hC
    rw [fillA_fillM]
    refine hst xs x fun t ht hl R hR => ?_
    refine hk t ht R ?_
    unfold envM
    rw [envFrom_get]
    simp [hl, slotM, hR]⟩, h⟩
/-- A slot handed on of which a predicate is known. -/
theorem gm_mv (hds : a.defers = ds) (t : Tmp) (ho : o.op = .move (.tmp t) ∨ o.op = .assign (.tmp t)) (hg : o.guard = none) (d : Tmp) (hd : o.dst = some d) (R : Value → World → Prop) (hR : ∀ u w w', Ext w w' → R u w → R u w') (hM : Opq.at M t = some R) (hlt : t < a.tmps.size)
    (h : wpG P ops (gCls w0) ds QG rest (envM (a.put (some d) undef) ((d, R) :: M.off (some d)))) : wpG P ops (gCls w0) ds QG (o :: rest) (envM a M) := by
  refine gm_op hds (.p R) hR (fun xs x hk => ?_) (by rw [hd, envM_put_p]; exact h)
  have hl : t ∈ o.looksAt ops := looks_operand (by rcases ho with h | h <;> simp [h, Op.operands])
  have hv := hk t hl hlt R hM
  have he : (fillM a xs M).eval (.tmp t) = xs t := by
    have e := fillM_get a xs M t
    rw [hM] at e
    have hD : ∀ b : Array Value, b.getD t undef = (b[t]?).getD undef := fun b => by simp
    show (fillM a xs M).tmps.getD t undef = _
    rw [hD, e, Array.getElem?_eq_getElem hlt]
    rfl
  unfold gStep
  rw [if_pos (by simp [Region.wanted, hg])]
  have hr : (execOp (fillM a xs M).eval o).run P (w0.ext x) = .ok (.value (xs t)) (w0.ext x) := by
    unfold execOp
    rcases ho with h | h <;> simp only [h, he] <;> rfl
  rw [hr]
  exact ⟨hv, Ext.refl _, ext_ext _ _⟩
/-- The end: whatever the slots came to. -/
theorem gm_end {K : Act → World → Prop} (hds : a.defers = ds) (h : ∀ (xs : Nat → Value) (x : Grow w0), (∀ (t : Nat), t < a.tmps.size → ∀ R, Opq.at M t = some R → R (xs t) (w0.ext x)) → K (fillM a xs M) (w0.ext x)) :
    wpG P ops (gCls w0) ds (gPost (gCls w0) ds K) [] (envM a M) := by
  subst hds
  intro xs w hC hk
  obtain ⟨x, rfl⟩ := mk_ext hC
  rw [fillA_fillM]
  refine h xs x fun t hl R hR => hk t R ?_
  unfold envM
  rw [envFrom_get]
  simp [hl, slotM, hR]
theorem gm_end_at {K : Act → World → Prop} (hds : a.defers = ds) (M' : Opq) (hM : M = M') (h : ∀ (xs : Nat → Value) (x : Grow w0), (∀ (t : Nat), t < a.tmps.size → ∀ R, Opq.at M' t = some R → R (xs t) (w0.ext x)) → K (fillM a xs M') (w0.ext x)) :
    wpG P ops (gCls w0) ds (gPost (gCls w0) ds K) [] (envM a M) := by
  subst hM
  exact gm_end hds h
end
/-- **A WHOLE REGION**, its frame written out. -/
theorem wp_region_m {P : Program} {id : Nat} {Q : Exit → Act → World → Prop} {a : Act} {w : World} {l : List Oper} (hm : P.follows .mixedOrders = true) (hB : Region.lexB .any l.toArray = true)
    (h : wpG P l.toArray (gCls w) a.defers (gPost (gCls w) a.defers (fun a' w' => Q .normal a' w')) l (envM a [])) : (Code.region id l.toArray true).wp P Q a w :=
  wp_region_gx hm hB (by rw [envM_nil] at h; exact h)
theorem wp_region_mt {P : Program} {id : Nat} {Q : Exit → Act → World → Prop} {a : Act} {w : World} {l : List Oper} (n : Nat) (hm : P.follows .mixedOrders = true) (hB : Region.lexTailB .any l.toArray n = true)
    (h : wpG P l.toArray (gCls w) a.defers (gPost (gCls w) a.defers (fun a' w' => wpList P l.toArray Q (l.drop n) a' w')) (l.take n) (envM a [])) : (Code.region id l.toArray true).wp P Q a w :=
  wp_region_gxt n hm hB (by rw [envM_nil] at h; exact h)
end Go.Proofs.Ytapojpjmeadabaa
end

section
/- sha.Hash.Sum: the sum of all that a Hash was told. -/
namespace Go.Proofs.Ytapojpjmeadabaa
open Go.RowKit
set_option linter.unusedVariables false
set_option linter.unusedSimpArgs false
attribute [local go_sem] lt_ext cell?_ext frozen?_ext shape?_ext

/-- A digest as a value. -/
def row8 (l : List UInt8) : Array Value := (l.map B8).toArray
abbrev Dig (l : List UInt8) : Value := .agg (row8 l)
theorem row8_size (l : List UInt8) : (row8 l).size = l.length := by simp [row8]
theorem row8_get {l : List UInt8} {i : Nat} (h : i < l.length) : (row8 l)[i]? = some (B8 (l.getD i 0)) := by simp [row8, h]
theorem row8_set {l : List UInt8} {i : Nat} (x : UInt8) : (row8 l).setIfInBounds i (B8 x) = row8 (l.set i x) := by
  simp only [row8, List.setIfInBounds_toArray, List.map_set]
theorem row8_one (l : List UInt8) : (row8 l).all (·.oneCell') = true := by simp [row8, Value.oneCell']
theorem zero27 : (∀ w, (zeroValue 27).run Try.prog w = .ok (Dig (Sha.zeros 32)) w) ∧ (Try.prog.info? 27).map (·.size) = some 32 := zero_of_info (by kernel_rfl)
theorem size27 (l : List UInt8) (h : l.length = 32) : (Try.prog.info? 27).map (·.size) = some (row8 l).size := by rw [row8_size, h]; exact zero27.2
theorem wpl_load27 {ops : Array Oper} {rest : List Oper} {o : Oper} {a : Act} {w : World} {Q : Exit → Act → World → Prop} (hgd : o.guard = none) (x : Operand) (ho : o.op = .load 27 x)
    (g : Nat) (hx : a.eval x = .pointer (some ⟨g, 0, none⟩)) (l : List UInt8) (hl : l.length = 32) (hg : w.heap[g]? = some (.cells (row8 l) 27 (0, 0)))
    (h : wpList Try.prog ops Q rest (a.put o.dst (Dig l)) w) : wpList Try.prog ops Q (o :: rest) a w :=
  wpList_load_row hgd 27 x ho g hx 27 _ (0, 0) _ hg Try.underlying27 rfl (size27 l hl) h
/-- A store of a whole digest: whatever world has just that turned. -/
theorem wpl_store27 {ops : Array Oper} {rest : List Oper} {o : Oper} {a : Act} {w : World} {Q : Exit → Act → World → Prop} (hgd : o.guard = none) (x y : Operand) (ho : o.op = .store 27 x y)
    (g : Nat) (l l0 : List UInt8) (hx : a.eval x = .pointer (some ⟨g, 0, none⟩)) (hy : a.eval y = Dig l) (hl : l.length = 32) (hl0 : l0.length = 32) (hg : w.heap[g]? = some (.cells (row8 l0) 27 (0, 0)))
    (h : ∀ w', w'.heap[g]? = some (.cells (row8 l) 27 (0, 0)) → Upd w w' g → wpList Try.prog ops Q rest (a.put o.dst undef) w') : wpList Try.prog ops Q (o :: rest) a w :=
  wpList_store_row hgd 27 x y ho g _ hx hy 27 _ hg (size27 l hl) (by rw [row8_size, row8_size, hl, hl0]) (row8_one l)
    (h _ (setRow_heap _ _ _ _ _ _ hg) ⟨rfl, rfl, rfl, by simp, fun k _ hk => setRow_other w g k _ (fun e => hk (by rw [e]))⟩)
theorem ret27 {fn : Func} {p : Tmp} {R : Ending → World → Prop} {a : Act} {w : World} (hr : fn.results = #[.cell p 27]) (g : Nat) (l : List UInt8) (hl : l.length = 32)
    (hp : a.tmps.getD p undef = .pointer (some ⟨g, 0, none⟩)) (hg : w.heap[g]? = some (.cells (row8 l) 27 (0, 0))) (hd : a.defers = []) (hR : R (.returned (Dig l)) w) : bodyPost Try.prog fn R .ret a w :=
  bodyPost_ret (results_cell_row hr a.tmps w g 27 _ (0, 0) _ hp hg Try.underlying27 rfl (size27 l hl)) hd hR

/-- What is known of a copy: it lies in memory newer than B. -/
def CopyR (B kb : Nat) (m : List UInt8) (u : Value) (w : World) : Prop := ∃ hb' rv', u = .pointer (some ⟨hb', 0, none⟩) ∧ HashAt w hb' kb rv' m ∧ B ≤ hb' ∧ (∀ g, rv'.ownBlock = some g → B ≤ g)
theorem CopyR.ext {B kb : Nat} {m : List UInt8} (u : Value) (w w' : World) (hx : Ext w w') (h : CopyR B kb m u w) : CopyR B kb m u w' := by
  obtain ⟨hb', rv', h1, h2, h3, h4⟩ := h
  exact ⟨hb', rv', h1, h2.ext hx, h3, h4⟩

/-- Bytes written out, in a block that was just made. -/
theorem Bs.lit_new (w : World) (c : Array Value) (l : List UInt8) (hc : c = (l.map B8).toArray) (hl : l.length ≤ 4294967296) : Bs (w.alloc (.cells c 5)) (.slice (some ⟨w.heap.size, 0, none⟩) l.length l.length) l := by
  subst hc
  refine Rd.lit (by simp) (Nat.le_refl _) (Nat.le_trans hl (by unfold maxLen; decide)) (by simp) fun j u hj => ?_
  rw [Nat.zero_add, cell_of_row _ _ _ _ _ _ (heap_alloc_last w _)]
  simpa using hj
/-- A Hash of our own: all that it may turn lies in memory that is newer than w0. -/
structure OurH (w0 : World) (hb kb : Nat) (rv : Value) (m : List UInt8) (w : World) : Prop where
  at_ : HashAt w hb kb rv m
  ext : Ext w0 w
  ge : w0.heap.size ≤ hb
  fr : ∀ g, rv.ownBlock = some g → w0.heap.size ≤ g
theorem OurH.grow {w0 w w' : World} {hb kb : Nat} {rv : Value} {m : List UInt8} (h : OurH w0 hb kb rv m w) (hx : Ext w w') : OurH w0 hb kb rv m w' := ⟨h.at_.ext hx, h.ext.trans hx, h.ge, h.fr⟩
theorem OurH.wrote {w0 w w' : World} {hb kb : Nat} {rv rv' : Value} {m m' : List UInt8} (h : OurH w0 hb kb rv m w) (hH : HashAt w' hb kb rv' m') (hc : Chg w w' (hset hb rv))
    (hf : rv'.ownBlock = rv.ownBlock ∨ ∀ g, rv'.ownBlock = some g → w.heap.size ≤ g) : OurH w0 hb kb rv' m' w' := by
  refine ⟨hH, ?_, h.ge, fun g hg => ?_⟩
  · exact (Chg.trans (S := fun _ => False) (Chg.of_ext h.ext _) hc (by
      rintro i hi (e | e)
      · have := h.ge; omega
      · have := h.fr i e.symm; omega)).ext fun k hk => hk.elim
  · rcases hf with e | e
    · exact h.fr g (e ▸ hg)
    · exact Nat.le_trans h.ext.size (e g hg)
theorem HashAt.rest {w : World} {hb kb : Nat} {rv : Value} {m : List UInt8} (h : HashAt w hb kb rv m) : ∃ A c, rv = .slice A (m.length % 64) c ∧ w.cell? ⟨hb, 8, none⟩ = some rv := by
  obtain ⟨p, r, h1, h2, h3, h4, h5⟩ := h.ex
  obtain ⟨A, c, hv, _⟩ := h5.rd.is
  refine ⟨A, c, ?_, hobj_cell8 h4⟩
  rw [hv, h1, List.length_append]
  congr 1
  omega

theorem hash_cells {w : World} {hb : Nat} {s : Sha.St} {rest long kp : Value} (h : w.heap[hb]? = some (.cells (hcells s.toList rest long kp) 104 (0, 0))) :
    w.cell? ⟨hb, 0, none⟩ = some (W32 s.a) ∧ w.cell? ⟨hb, 1, none⟩ = some (W32 s.b) ∧ w.cell? ⟨hb, 2, none⟩ = some (W32 s.c) ∧ w.cell? ⟨hb, 3, none⟩ = some (W32 s.d) ∧
    w.cell? ⟨hb, 4, none⟩ = some (W32 s.e) ∧ w.cell? ⟨hb, 5, none⟩ = some (W32 s.f) ∧ w.cell? ⟨hb, 6, none⟩ = some (W32 s.g) ∧ w.cell? ⟨hb, 7, none⟩ = some (W32 s.h) := by
  refine ⟨?_, ?_, ?_, ?_, ?_, ?_, ?_, ?_⟩ <;> (rw [cell_of_row _ _ _ _ _ _ h]; rfl)
theorem HashAt.state {w : World} {hb kb : Nat} {rv : Value} {m : List UInt8} (h : HashAt w hb kb rv m) (hm : m.length % 64 = 0) : w.heap[hb]? = some (hobj m rv m.length kb) := by
  obtain ⟨p, r, h1, h2, h3, h4, h5⟩ := h.ex
  have hr : r = [] := by
    apply List.eq_nil_of_length_eq_zero
    have := congrArg List.length h1
    simp at this
    omega
  subst hr
  simp only [List.append_nil] at h1
  subst h1
  exact h4
def outK (s : Sha.St) (k : Nat) : List UInt8 := (Sha.out s).take (4 * k) ++ Sha.zeros (32 - 4 * k)
theorem outK_length (s : Sha.St) (k : Nat) (hk : k ≤ 8) : (outK s k).length = 32 := by simp [outK, Sha.out_length, Sha.zeros]; omega
theorem outK_next (s : Sha.St) (k : Nat) (hk : k < 8) : ((((outK s k).set (4 * k) (UInt8.ofNat ((s.toList.getD k 0).toNat / 16777216))).set (4 * k + 1) (UInt8.ofNat ((s.toList.getD k 0).toNat / 65536))).set (4 * k + 2) (UInt8.ofNat ((s.toList.getD k 0).toNat / 256))).set (4 * k + 3) (UInt8.ofNat (s.toList.getD k 0).toNat) = outK s (k + 1) := by
  rcases below8 k hk with h|h|h|h|h|h|h|h <;> subst h <;> rfl
theorem i8_ofNat (n : Nat) : i8 (UInt8.ofNat n) = ((n % 256 : Nat) : Int) := by simp [i8]
theorem bytes8_cells (m : Nat) (hm : m ≤ 2147483648) : #[Value.int .u8 (8 * (m : Int) / 72057594037927936), .int .u8 (8 * (m : Int) / 281474976710656), .int .u8 (8 * (m : Int) / 1099511627776), .int .u8 (8 * (m : Int) / 4294967296),
    .int .u8 (8 * (m : Int) / 16777216 % 256), .int .u8 (8 * (m : Int) / 65536 % 256), .int .u8 (8 * (m : Int) / 256 % 256), .int .u8 (8 * (m : Int) % 256)] = ((Sha.bytes8 (8 * m)).map B8).toArray := by
  simp only [Sha.bytes8, List.map_cons, List.map_nil, B8, i8_ofNat]
  congr 1
  simp only [List.cons.injEq, Value.int.injEq, true_and, and_true]
  omega

set_option maxRecDepth 100000 in
set_option maxHeartbeats 1000000 in
theorem hsum_any (hb kb : Nat) (rv : Value) (m : List UInt8) (w : World) (hH : HashAt w hb kb rv m) (hle : m.length ≤ 2147483648) :
    Calls Try.prog 34 #[.pointer (some ⟨hb, 0, none⟩)] w fun e w' => e = .returned (Dig (Sha.sum m)) ∧ Ext w w' := by
  have hbh := hH.lt
  have g9 : w.cell? ⟨hb, 9, none⟩ = some (.int .u64 (m.length : Int)) := by
    obtain ⟨p, r, _, _, _, hh, _⟩ := hH.ex
    rw [cell_of_row _ _ _ _ _ _ hh]; rfl
  have HH := Lib.hid hH
  clear hH
  go_enter Try.func34, Try.ntmps34
  go_wp2_with (refine wpl_alloc_agg rfl 27 rfl _ zero27.1 ?_)
  refine wp_region_m (by kernel_rfl) (by kernel_rfl) ?_
  repeat (refine gm_q rfl rfl rfl rfl (fun K hK => ?_); go_big_quiet_op; refine hK _ ?_; clear hK K)
  refine gm_cp rfl rfl rfl rfl 35 #[.pointer (some ⟨hb, 0, none⟩)] (fun _ => by go_simp) 12 rfl (CopyR (w.heap.size + 1) kb m) CopyR.ext (fun x => ?_) ?_
  · have hx : Ext w ((w.alloc (.cells (row8 (Sha.zeros 32)) 27)).ext x) := ((Ext.refl w).alloc _).trans (ext_ext _ _)
    have hs : w.heap.size + 1 ≤ ((w.alloc (.cells (row8 (Sha.zeros 32)) 27)).ext x).heap.size := by have := (ext_ext (w.alloc (.cells (row8 (Sha.zeros 32)) 27)) x).size; simpa using this
    exact (copy_any hb kb rv m _ (HH.out.ext hx)).mono (fun e w' ⟨hb', rv', he, h1, h2, h3, h4⟩ => ⟨_, he, ⟨hb', rv', rfl, h1, Nat.le_trans hs h3, fun g hg => Nat.le_trans hs (h4 g hg)⟩, h2⟩)
  simp only [Act.put, List.setIfInBounds_toArray, List.set_cons_succ, List.set_cons_zero]
  repeat (refine gm_q rfl rfl rfl rfl (fun K hK => ?_); go_big_quiet_op; refine hK _ ?_; clear hK K)
  refine gm_mv rfl 12 (.inr rfl) rfl 3 rfl _ CopyR.ext rfl (by simp) ?_
  simp only [Act.put, List.setIfInBounds_toArray, List.set_cons_succ, List.set_cons_zero]
  repeat (refine gm_q rfl rfl rfl rfl (fun K hK => ?_); go_big_quiet_op; refine hK _ ?_; clear hK K)
  refine gm_end_at rfl [(3, CopyR (w.heap.size + 1) kb m), (12, CopyR (w.heap.size + 1) kb m)] rfl (fun xs x hk => ?_)
  have h3 := hk 3 (by simp) _ rfl
  simp only [fillM, Act.put, List.setIfInBounds_toArray, List.set_cons_succ, List.set_cons_zero]
  obtain ⟨hc, rvc, e3, hHc, hge, hfr⟩ := h3
  rw [e3]
  generalize xs 12 = v12
  clear hk e3 xs g9
  -- the worlds from here on: they have only grown out of w0
  have hR0 : (w.alloc (.cells (row8 (Sha.zeros 32)) 27)).heap[w.heap.size]? = some (.cells (row8 (Sha.zeros 32)) 27 (0, 0)) := heap_alloc_last w _
  have hw0 : Ext w (w.alloc (.cells (row8 (Sha.zeros 32)) 27)) := (Ext.refl w).alloc _
  have hs0 : (w.alloc (.cells (row8 (Sha.zeros 32)) 27)).heap.size = w.heap.size + 1 := by simp
  have hx1 := ext_ext (w.alloc (.cells (row8 (Sha.zeros 32)) 27)) x
  generalize (w.alloc (.cells (row8 (Sha.zeros 32)) 27)).ext x = w1 at *
  generalize w.alloc (.cells (row8 (Sha.zeros 32)) 27) = w0 at *
  have hour : OurH w0 hc kb rvc m w1 := ⟨hHc, hx1, by omega, fun g hg => by have := hfr g hg; omega⟩
  have HC := Lib.hid hour
  have HW0 := Lib.hid hw0
  have HR0 := Lib.hid hR0
  have HS0 := Lib.hid hs0
  clear hHc hx1 hw0 hR0 hs0 hfr hour hge
  go_wp2_with (go_at_call 33; go_must (refine (write_any hc kb rvc _ m [0x80] _ (HC.out.at_.ext ((Ext.refl w1).alloc _)) (Bs.lit_new w1 _ [0x80] rfl (by decide)) (by simp; omega)).mono ?_; rintro e w2 ⟨rfl, rv2, hH2, hc2, hf2⟩; have HC2 := Lib.hid ((HC.out.grow ((Ext.refl w1).alloc _)).wrote hH2 hc2 hf2); clear hH2 hc2 hf2))
  go_loopg [] (Sha.padZ m.length) (fun kq wr => ∃ j rvj, j + kq = Sha.padZ m.length ∧ OurH w0 hc kb rvj (m ++ [0x80] ++ Sha.zeros j) wr)
  case atStart => exact ⟨0, rv2, by omega, by simpa [Sha.zeros] using HC2.out⟩
  case round =>
    obtain ⟨j, rvj, hj, hour⟩ := hrel
    obtain ⟨A, c, hv, g8⟩ := hour.at_.rest
    have hlen : (m ++ [0x80] ++ Sha.zeros j).length = m.length + 1 + j := by simp [Sha.zeros]; omega
    rw [hlen] at hv
    subst hv
    have HJ := Lib.hid hour
    clear HC HC2 hour hlen
    have hpad : (m.length + 1 + Sha.padZ m.length) % 64 = 56 := by unfold Sha.padZ; omega
    have hpad2 : gk ≠ 0 → (m.length + 1 + j) % 64 ≠ 56 := by unfold Sha.padZ at hj; omega
    have hpl : Sha.padZ m.length < 64 := by unfold Sha.padZ; omega
    by_cases hq : gk = 0
    · have hj2 : j = Sha.padZ m.length := by omega
      have e56 : (((m.length : Int) + 1 + (j : Int)) % 64 != 56) = false := by
        subst hj2
        simp only [bne_eq_false_iff_eq]
        omega
      have HPM := Lib.hid hj2
      clear hpad hpad2 hj2
      go_wp2_with (go_at_call 33; go_must (refine (write_any hc kb _ _ _ (Sha.bytes8 (8 * m.length)) _ (HJ.out.at_.ext ((Ext.refl wr).alloc _)) (Bs.lit_new wr _ (Sha.bytes8 (8 * m.length)) (bytes8_cells _ hle) (by simp [Sha.bytes8])) (by simp [Sha.zeros, Sha.bytes8]; omega)).mono ?_; rintro e w3 ⟨rfl, rv3, hH3, hc3, hf3⟩; have HC3 := Lib.hid ((HJ.out.grow ((Ext.refl wr).alloc _)).wrote hH3 hc3 hf3); clear hH3 hc3 hf3; have hpm : m ++ [0x80] ++ Sha.zeros j ++ Sha.bytes8 (8 * m.length) = Sha.padded m := (by rw [HPM.out]; rfl); rw [hpm] at HC3; clear hpm; have hst : w3.heap[hc]? = some (.cells (hcells (Sha.foldN ((Sha.padded m).length / 64) Sha.init (Sha.padded m)).toList _ _ _) 104 (0, 0)) := HC3.out.at_.state (Sha.padded_mod m); obtain ⟨st, hs⟩ : ∃ st, Sha.foldN ((Sha.padded m).length / 64) Sha.init (Sha.padded m) = st := ⟨_, rfl⟩; rw [hs] at hst; have HS := Lib.hid hs; have hcl : hc < w3.heap.size := (Array.getElem?_eq_some_iff.1 hst).1; obtain ⟨g0, g1, g2, g3, g4, g5, g6, g7⟩ := hash_cells hst; clear hs hst))
      have hRw : w3.heap[w.heap.size]? = some (.cells (row8 (Sha.zeros 32)) 27 (0, 0)) := (HC3.out.ext.block (by have := HS0.out; omega)).trans HR0.out
      have hR3 : w.heap.size < w3.heap.size := (Array.getElem?_eq_some_iff.1 hRw).1
      have hE3 : Ext w w3 := HW0.out.trans HC3.out.ext
      have HRW := Lib.hid hRw
      have HE3 := Lib.hid hE3
      clear hRw hE3
      go_loopw [60] (fun i ws => ∃ k : Nat, k ≤ 8 ∧ i = .int .i64 k ∧ Ext w3 ws ∧ ws.heap[w3.heap.size]? = some (.cells (row8 (outK st k)) 27 (0, 0)))
        (fun i _ => 8 - (intOf i).toNat)
      case atStart => exact ⟨0, by omega, rfl, (Ext.refl _).alloc _, heap_alloc_last w3 _⟩
      case round =>
        clear g0 g1 g2 g3 g4 g5 g6 g7 HC3 HJ HPM g8
        obtain ⟨k, hk, rfl, he, hO⟩ := hrel
        by_cases hlt : k < 8
        · have hix := run_index100 st k hlt
          have hcell : ∀ i, i < 32 → wr.cell? ⟨w3.heap.size, i, none⟩ = some (B8 ((outK st k).getD i 0)) := fun i hi => by
            rw [cell_of_row _ _ _ _ _ _ hO]; exact row8_get (by rw [outK_length _ _ hk]; exact hi)
          have c0 := hcell (4 * k) (by omega)
          have c1 := hcell (4 * k + 1) (by omega)
          have c2 := hcell (4 * k + 2) (by omega)
          have c3 := hcell (4 * k + 3) (by omega)
          have hf : ∀ i, wr.frozen? ⟨w3.heap.size, i, none⟩ = false := fun i => frozen_of_row _ _ _ _ _ hO
          have HE := Lib.hid he
          have HO := Lib.hid hO
          clear he hO hcell
          go_wp2
          go_roundw
          case rel =>
            simp only [m8_of_i32_24, m8_of_i32_16, m8_of_i32_8, m8_of_i32]
            refine ⟨k + 1, by omega, by go_num, ?_, ?_⟩
            · repeat refine Ext.setCell_new ?_ trivial (Nat.le_refl _)
              exact HE.out
            · have h1 := (heap_setCell_same _ _ (4 * k) _ _ (B8 (UInt8.ofNat ((st.toList.getD k 0).toNat / 16777216))) HO.out)
              rw [row8_set] at h1
              have h2 := (heap_setCell_same _ _ (4 * k + 1) _ _ (B8 (UInt8.ofNat ((st.toList.getD k 0).toNat / 65536))) h1)
              rw [row8_set] at h2
              have h3 := (heap_setCell_same _ _ (4 * k + 2) _ _ (B8 (UInt8.ofNat ((st.toList.getD k 0).toNat / 256))) h2)
              rw [row8_set] at h3
              have h4 := (heap_setCell_same _ _ (4 * k + 3) _ _ (B8 (UInt8.ofNat (st.toList.getD k 0).toNat)) h3)
              rw [row8_set, outK_next _ _ hlt] at h4
              exact h4
          case measure => simp [intOf]; omega
        · have hk8 : k = 8 := by omega
          subst hk8
          have e8 : outK st 8 = Sha.out st := by simp [outK, Sha.zeros, List.take_of_length_le (Nat.le_of_eq (Sha.out_length st))]
          rw [e8] at hO
          have hRr : wr.heap[w.heap.size]? = some (.cells (row8 (Sha.zeros 32)) 27 (0, 0)) := (he.block hR3).trans HRW.out
          have HO := Lib.hid hO
          have HR := Lib.hid hRr
          have HE := Lib.hid he
          clear hO hRr he e8 hlt hk
          go_wp2_with (first | (refine wpl_load27 rfl _ rfl w3.heap.size rfl (Sha.out st) (Sha.out_length st) HO.out ?_) | (refine wpl_store27 rfl _ _ rfl w.heap.size (Sha.out st) (Sha.zeros 32) rfl rfl (Sha.out_length st) (by simp [Sha.zeros]) HR.out ?_; intro w5 h5 hu5; have H5 := Lib.hid h5; have HU5 := Lib.hid hu5; clear h5 hu5))
          refine ret27 rfl w.heap.size (Sha.out st) (Sha.out_length st) rfl H5.out rfl ⟨?_, (HE3.out.trans HE.out).upd_new HU5.out (Nat.le_refl _)⟩
          rw [← HS.out]
          rfl
    · have e56 : (((m.length : Int) + 1 + (j : Int)) % 64 != 56) = true := by
        simp only [bne_iff_ne]
        have := hpad2 hq
        omega
      clear hpad hpad2
      go_wp2_with (go_at_call 33; go_must (refine (write_any hc kb _ _ _ [0] _ (HJ.out.at_.ext ((Ext.refl wr).alloc _)) (Bs.lit_new wr _ [0] rfl (by decide)) (by simp [Sha.zeros]; omega)).mono ?_; rintro e w3 ⟨rfl, rv3, hH3, hc3, hf3⟩; have HC3 := Lib.hid ((HJ.out.grow ((Ext.refl wr).alloc _)).wrote hH3 hc3 hf3); clear hH3 hc3 hf3))
      go_roundg (gk - 1)
      case measure => omega
      case rel =>
        refine ⟨j + 1, rv3, by omega, ?_⟩
        have e : m ++ [0x80] ++ Sha.zeros (j + 1) = m ++ [0x80] ++ Sha.zeros j ++ [0] := by
          simp [Sha.zeros, List.replicate_succ', List.append_assoc]
        rw [e]
        exact HC3.out
end Go.Proofs.Ytapojpjmeadabaa
end

section
/- sha.Sum: of all bytes, in however many pieces. -/
namespace Go.Proofs.Ytapojpjmeadabaa
open Go.RowKit
set_option linter.unusedVariables false
set_option linter.unusedSimpArgs false
attribute [local go_sem] lt_ext cell?_ext frozen?_ext shape?_ext

/-- A slice of slices of bytes. -/
structure Rss (w : World) (v : Value) (vs : List Value) (ls : List (List UInt8)) : Prop where
  rd : Rd w 1 v ls.length vs
  each : ∀ i, i < ls.length → ∃ u, vs[i]? = some u ∧ Bs w u (ls.getD i [])
theorem Rss.ext {w w' : World} {v : Value} {vs : List Value} {ls : List (List UInt8)} (h : Rss w v vs ls) (hx : Ext w w') : Rss w' v vs ls :=
  ⟨h.rd.ext hx, fun i hi => let ⟨u, h1, h2⟩ := h.each i hi; ⟨u, h1, Rd.ext h2 hx⟩⟩
theorem flat_take_le (ls : List (List UInt8)) (k : Nat) : (ls.take k).flatten.length ≤ ls.flatten.length := by
  conv => rhs; rw [← List.take_append_drop k ls, List.flatten_append, List.length_append]
  omega
theorem flat_take_succ (ls : List (List UInt8)) (k : Nat) (hk : k < ls.length) : (ls.take (k + 1)).flatten = (ls.take k).flatten ++ ls.getD k [] := by
  rw [List.take_succ_eq_append_getElem hk, List.flatten_append]
  simp [List.getD, hk]

set_option maxRecDepth 100000 in
set_option maxHeartbeats 1000000 in
theorem sum_any (lv : Value) (vs : List Value) (ls : List (List UInt8)) (w : World) (hL : Rss w lv vs ls) (hle : ls.flatten.length ≤ 2147483648) :
    Calls Try.prog 30 #[lv] w fun e w' => e = .returned (Dig (Sha.sum ls.flatten)) ∧ Ext w w' := by
  obtain ⟨A, cap, rfl, hcap, hcm, _, _⟩ := hL.rd.is
  have hlm : ls.length ≤ maxLen := Nat.le_trans hcap hcm
  unfold maxLen at hlm
  have HL := Lib.hid hL
  clear hL
  go_enter Try.func30, Try.ntmps30
  go_wp2_with (first
    | (refine wpl_alloc_agg rfl 27 rfl _ zero27.1 ?_)
    | (go_at_call 32; go_must (refine (new_any _).mono ?_; rintro e w1 ⟨hb, kb, rfl, hH1, hx1, hg1, hk1⟩; have HO1 := Lib.hid (⟨hH1, hx1, hg1, fun g hg => nomatch hg⟩ : OurH (w.alloc (.cells (row8 (Sha.zeros 32)) 27)) hb kb (.slice none 0 0) [] w1); clear hH1 hx1 hg1)))
  have hR0 : w1.heap[w.heap.size]? = some (.cells (row8 (Sha.zeros 32)) 27 (0, 0)) := (HO1.out.ext.block (by simp)).trans (heap_alloc_last w _)
  have HR0 := Lib.hid hR0
  have hR0l : w.heap.size < w1.heap.size := (Array.getElem?_eq_some_iff.1 hR0).1
  clear hR0
  go_loopw [9] (fun i wr => ∃ (k : Nat) (rv : Value), k ≤ ls.length ∧ i = .int .i64 k ∧ OurH (w.alloc (.cells (row8 (Sha.zeros 32)) 27)) hb kb rv (ls.take k).flatten wr)
    (fun i _ => ls.length - (intOf i).toNat)
  case atStart => exact ⟨0, .slice none 0 0, by omega, rfl, HO1.out⟩
  case round =>
    obtain ⟨k, rv, hk, rfl, hour⟩ := hrel
    have hxw : Ext w wr := ((Ext.refl w).alloc _).trans hour.ext
    have HO := Lib.hid hour
    have HX := Lib.hid hxw
    have hf := flat_take_le ls (k + 1)
    by_cases hlt : k < ls.length
    · have hfs := flat_take_succ ls k hlt
      rw [hfs, List.length_append] at hf
      have HF := Lib.hid hfs
      obtain ⟨b, o, cap', hA, _, _, hbl, hcell⟩ := HL.out.rd.pos (by omega)
      injection hA with hA1 hA2 hA3
      subst hA1
      subst hA3
      obtain ⟨u, hu, hub⟩ := HL.out.each k hlt
      have hc := (hxw.cell b (o + k) hbl).trans (hcell k u hu)
      have HU := Lib.hid (Rd.ext hub hxw)
      clear hour hxw hcell hub HO1 HR0 hu hfs
      go_wp2_with (go_at_call 33; go_must (refine (write_any hb kb rv _ _ (ls.getD k []) _ HO.out.at_ HU.out (by omega)).mono ?_; rintro e w3 ⟨rfl, rv3, hH3, hc3, hf3⟩; have HO3 := Lib.hid (HO.out.wrote hH3 hc3 hf3); clear hH3 hc3 hf3))
      go_roundw
      case rel => exact ⟨k + 1, rv3, by omega, by go_num, by rw [HF.out]; exact HO3.out⟩
      case measure => simp [intOf]; omega
    · have hkl : k = ls.length := by omega
      have e : (ls.take k).flatten = ls.flatten := by rw [hkl, List.take_length]
      rw [e] at HO
      have hR : wr.heap[w.heap.size]? = some (.cells (row8 (Sha.zeros 32)) 27 (0, 0)) := (HO.out.ext.block (by simp)).trans (heap_alloc_last w _)
      have HR := Lib.hid hR
      clear hour hxw e hkl HR0 HO1 hR
      go_wp2_with (first
        | (go_at_call 34; go_must (refine (hsum_any hb kb rv _ _ HO.out.at_ hle).mono ?_; rintro e w3 ⟨rfl, hx3⟩; have HX3 := Lib.hid hx3; clear hx3))
        | (refine wpl_store27 rfl _ _ rfl w.heap.size (Sha.sum ls.flatten) (Sha.zeros 32) rfl rfl (Sha.sum_length _) (by simp [Sha.zeros]) ((HX3.out.block (Array.getElem?_eq_some_iff.1 HR.out).1).trans HR.out) ?_; intro w5 h5 hu5; have H5 := Lib.hid h5; have HU5 := Lib.hid hu5; clear h5 hu5))
      exact ret27 rfl w.heap.size _ (Sha.sum_length _) rfl H5.out rfl ⟨rfl, (HX.out.trans HX3.out).upd_new HU5.out (Nat.le_refl _)⟩
end Go.Proofs.Ytapojpjmeadabaa
end

section
/- One more rule of the region theorem: an operation whose value is known by a predicate, which may make memory. -/
namespace Go.Proofs.Ytapojpjmeadabaa
open Go.RowKit
set_option linter.unusedVariables false
set_option linter.unusedSimpArgs false
section
variable {P : Program} {ops : Array Oper} {w0 : World} {QG : List Sl → Prop} {rest : List Oper} {o : Oper} {a : Act} {M : Opq} {ds : List Deferred}
theorem gm_v (hds : a.defers = ds) (hw : Region.wanted o (yielded ops a.tmps) = true) (hsel : notSelB o = true) (hl : noLook ops o M = true) (d : Tmp) (hd : o.dst = some d)
    (R : Value → World → Prop) (hR : ∀ u w w', Ext w w' → R u w → R u w')
    (hr : ∀ x : Grow w0, ∃ v w', (execOp a.eval o).run P (w0.ext x) = .ok (.value v) w' ∧ R v w' ∧ Ext (w0.ext x) w')
    (h : wpG P ops (gCls w0) ds QG rest (envM (a.put (some d) undef) ((d, R) :: M.off (some d)))) : wpG P ops (gCls w0) ds QG (o :: rest) (envM a M) := by
  subst hds
  exact ⟨.p R, gYields_same (notSel hsel) hl hR (fun w hC => by
    unfold gStep
    obtain ⟨x, rfl⟩ := mk_ext hC
    obtain ⟨v, w', h1, h2, h3⟩ := hr x
    rw [if_pos hw, h1]
    exact ⟨h2, h3, hC.trans h3⟩), by rw [hd, envM_put_p]; exact h⟩
end
end Go.Proofs.Ytapojpjmeadabaa
end

section
/- Comparing two digests. -/
namespace Go.Proofs.Ytapojpjmeadabaa
open Go.RowKit
set_option linter.unusedVariables false
set_option linter.unusedSimpArgs false

theorem plain5 : Try.prog.plainKey 5 = true := by kernel_rfl
theorem cells5 : Try.prog.cellsOf 5 = 1 := by kernel_rfl
theorem run_eq8 (w : World) (d : Nat) (x y : UInt8) : (Op.equalIn (d + 1) 5 (B8 x) (B8 y)).run Try.prog w = .ok (decide (x = y)) w := by
  have h := run_equalIn_int (P := Try.prog) w d 5 .u8 .u8 (i8 x) (i8 y) Try.underlying5
  have e : (i8 x == i8 y) = decide (x = y) := by
    by_cases e : x = y
    · simp [e]
    · have : i8 x ≠ i8 y := fun h => e (i8_inj h)
      simp [e, this]
  rw [e] at h
  exact h
theorem run_eqItems8 (w : World) (d : Nat) (x y : List UInt8) : ∀ is : List Nat, (∀ i ∈ is, i < x.length ∧ i < y.length) →
    (Op.eqItems (d + 1) 5 1 (row8 x) (row8 y) is).run Try.prog w = .ok (is.all fun i => decide (x.getD i 0 = y.getD i 0)) w
  | [], _ => by simp [Op.eqItems]
  | i :: is, h => by
    have hi := h i (by simp)
    simp only [Op.eqItems, Sem.run_bind, Nat.mul_one, run_part_plain w plain5 (row8_get hi.1), run_part_plain w plain5 (row8_get hi.2), Result.andThen_ok, run_eq8]
    by_cases e : x.getD i 0 = y.getD i 0
    · simp only [e, decide_true, Bool.not_true, Bool.false_eq_true, if_false]
      rw [run_eqItems8 w d x y is fun j hj => h j (by simp [hj])]
      rw [List.all_cons, decide_eq_true e, Bool.true_and]
    · simp only [decide_eq_false e, Bool.not_false, if_true, Sem.run_pure, List.all_cons, Bool.false_and]
theorem all_eq32 (x y : List UInt8) (hx : x.length = 32) (hy : y.length = 32) : ((List.range 32).all fun i => decide (x.getD i 0 = y.getD i 0)) = decide (x = y) := by
  by_cases e : x = y
  · simp [e]
  · have : ¬ ∀ i, i < 32 → x.getD i 0 = y.getD i 0 := fun h => e (List.ext_getElem (by omega) fun i h1 h2 => by
      have := h i (by omega)
      simpa [h1, h2] using this)
    simp only [e, decide_false]
    cases h : (List.range 32).all fun i => decide (x.getD i 0 = y.getD i 0)
    · rfl
    · rw [List.all_eq_true] at h
      exact absurd (fun i hi => by simpa using h i (by simpa using hi)) this
theorem run_equal27 (x y : List UInt8) (hx : x.length = 32) (hy : y.length = 32) (w : World) : (Op.equal 27 (Dig x) (Dig y)).run Try.prog w = .ok (decide (x = y)) w := by
  have hs : (Try.prog.info? 5).isSome = true := by kernel_rfl
  obtain ⟨i, hi⟩ := Option.isSome_iff_exists.1 hs
  unfold Op.equal
  rw [show Op.maxDepth = 9998 + 1 + 1 from rfl, run_equalIn_array w (9998 + 1) (row8 x) (row8 y) Try.underlying27 hi, cells5, run_eqItems8 w 9998 x y _ (fun i h => by have := List.mem_range.1 h; omega), all_eq32 x y hx hy]
theorem guard27 : Try.prog.eqGuardType Try.prog.depth 27 = false := by kernel_rfl
theorem run_eql27 (a b : Operand) (x y : List UInt8) (hx : x.length = 32) (hy : y.length = 32) (w : World) :
    (do eqGuard .eql 27 a b (Dig x) (Dig y); binOp .eql 27 (Dig x) (Dig y) : Sem Value).run Try.prog w = .ok (.bool (decide (x = y))) w := by
  simp only [eqGuard, binOp, Sem.run_bind]
  have h := run_equal27 x y hx hy w
  simp [h, guard27]
theorem run_neq27 (a b : Operand) (x y : List UInt8) (hx : x.length = 32) (hy : y.length = 32) (w : World) :
    (do eqGuard .neq 27 a b (Dig x) (Dig y); binOp .neq 27 (Dig x) (Dig y) : Sem Value).run Try.prog w = .ok (.bool (!decide (x = y))) w := by
  simp only [eqGuard, binOp, Sem.run_bind]
  have h := run_equal27 x y hx hy w
  simp [h, guard27]
theorem exec_eq27 {o : Oper} {ρ : Operand → Value} (p q : Operand) (t : TypeId) (ho : o.op = .binOp .eql 27 p q t) (x y : List UInt8) (hp : ρ p = Dig x) (hq : ρ q = Dig y) (hx : x.length = 32) (hy : y.length = 32) (w : World) :
    (execOp ρ o).run Try.prog w = .ok (.value (.bool (decide (x = y)))) w := by
  unfold execOp
  simp only [ho, hp, hq]
  have e := run_eql27 p q x y hx hy w
  rw [Sem.run_bind, e]
  rfl
theorem exec_ne27 {o : Oper} {ρ : Operand → Value} (p q : Operand) (t : TypeId) (ho : o.op = .binOp .neq 27 p q t) (x y : List UInt8) (hp : ρ p = Dig x) (hq : ρ q = Dig y) (hx : x.length = 32) (hy : y.length = 32) (w : World) :
    (execOp ρ o).run Try.prog w = .ok (.value (.bool (!decide (x = y)))) w := by
  unfold execOp
  simp only [ho, hp, hq]
  have e := run_neq27 p q x y hx hy w
  rw [Sem.run_bind, e]
  rfl
/-- An operation whose value is known. -/
theorem wpl_v {P : Program} {ops : Array Oper} {rest : List Oper} {o : Oper} {a : Act} {w : World} {Q : Exit → Act → World → Prop} (hw : Region.wanted o (yielded ops a.tmps) = true) (v : Value)
    (hr : (execOp a.eval o).run P w = .ok (.value v) w) (h : wpList P ops Q rest (a.put o.dst v) w) : wpList P ops Q (o :: rest) a w :=
  wpList_step fun K hK => by
    rw [if_pos hw]
    unfold Oper.wp
    rw [hr]
    exact hK _ _ h
theorem gm_e {P : Program} {ops : Array Oper} {w0 : World} {QG : List Sl → Prop} {rest : List Oper} {o : Oper} {a : Act} {M : Opq} {ds : List Deferred} (hd : a.defers = ds) (hw : Region.wanted o (yielded ops a.tmps) = true) (hsel : notSelB o = true) (hl : noLook ops o M = true) (v : Value)
    (hr : ∀ w, (execOp a.eval o).run P w = .ok (.value v) w)
    (h : wpG P ops (gCls w0) ds QG rest (envM (a.put o.dst v) (M.off o.dst))) : wpG P ops (gCls w0) ds QG (o :: rest) (envM a M) := by
  subst hd
  exact ⟨.v v, gYields_same (notSel hsel) hl (Sl.stable_v _ _) (fun w hC => by
    unfold gStep
    rw [if_pos hw, hr w]
    exact ⟨rfl, Ext.refl _, hC⟩), by rw [envM_put_v]; exact h⟩
/-- Sum of a nil Hash. -/
theorem hsum_nil (w : World) : Calls Try.prog 34 #[.pointer none] w fun e w' => e = .returned (Dig (Sha.zeros 32)) ∧ Ext w w' := by
  go_enter Try.func34, Try.ntmps34
  go_wp2_with (first | (refine wpl_alloc_agg rfl 27 rfl _ zero27.1 ?_) | (refine wpl_store27 rfl _ _ rfl w.heap.size (Sha.zeros 32) (Sha.zeros 32) rfl rfl (by simp [Sha.zeros]) (by simp [Sha.zeros]) (heap_alloc_last w _) ?_; intro w8 h8 hu8; have H8 := Lib.hid h8; have HE8 := Lib.hid (((Ext.refl w).alloc _).upd_new hu8 (Nat.le_refl _)); clear h8 hu8))
  refine ret27 rfl w.heap.size (Sha.zeros 32) (by simp [Sha.zeros]) rfl H8.out rfl ⟨rfl, HE8.out⟩
end Go.Proofs.Ytapojpjmeadabaa
end

section
/- The reference's lists: sacristanref01.Join, Put, Get. -/
namespace Go.Proofs.Ytapojpjmeadabaa
open Go.RowKit
set_option linter.unusedVariables false
set_option linter.unusedSimpArgs false
attribute [local go_sem] lt_ext cell?_ext frozen?_ext shape?_ext

/-- New bytes: 'v' holds l in memory that is newer than w. -/
structure NewB (w : World) (v : Value) (l : List UInt8) (w' : World) : Prop where
  own : OwnB w' v l
  ext : Ext w w'
  fr : ∀ g, v.ownBlock = some g → w.heap.size ≤ g
theorem NewB.nil {w w' : World} (h : Ext w w') : NewB w (.slice none 0 0) [] w' := ⟨Own.nil _ _ _, h, fun g hg => nomatch hg⟩
theorem NewB.bs {w w' : World} {v : Value} {l : List UInt8} (h : NewB w v l w') : Bs w' v l := Own.rd h.own
theorem NewB.grow {w w1 w2 : World} {v : Value} {l : List UInt8} (h : NewB w v l w1) (hx : Ext w1 w2) : NewB w v l w2 := ⟨h.own.ext hx, h.ext.trans hx, h.fr⟩
theorem NewB.app {w w1 w2 : World} {v v' : Value} {l l' : List UInt8} (h : NewB w v l w1) (ho : OwnB w2 v' l') (hg : Grew w1 w2 v) (hf : v'.ownBlock = v.ownBlock ∨ ∀ g, v'.ownBlock = some g → w1.heap.size ≤ g) : NewB w v' l' w2 := by
  refine ⟨ho, ?_, fun g hv => ?_⟩
  · exact (Chg.trans (S := fun _ => False) (Chg.of_ext h.ext _) (Chg.of_grew hg) (fun i hi e => by have := h.fr i e.symm; omega)).ext fun k hk => hk.elim
  · rcases hf with e | e
    · exact h.fr g (e ▸ hv)
    · exact Nat.le_trans h.ext.size (e g hv)

set_option maxRecDepth 100000 in
set_option maxHeartbeats 1000000 in
theorem join_any (lv : Value) (vs : List Value) (ls : List (List UInt8)) (w : World) (hL : Rss w lv vs ls) (hle : ls.flatten.length ≤ 4294967296) :
    Calls Try.prog 28 #[lv] w fun e w' => ∃ v, e = .returned v ∧ NewB w v ls.flatten w' := by
  obtain ⟨A, cap, rfl, hcap, hcm, _, _⟩ := hL.rd.is
  have hlm : ls.length ≤ maxLen := Nat.le_trans hcap hcm
  unfold maxLen at hlm
  have HL := Lib.hid hL
  clear hL
  go_enter Try.func28, Try.ntmps28
  go_wp2
  go_loopw [3, 4] (fun v i wr => ∃ (k : Nat), k ≤ ls.length ∧ i = .int .i64 k ∧ NewB w v (ls.take k).flatten wr)
    (fun _ i _ => ls.length - (intOf i).toNat)
  case atStart => exact ⟨0, by omega, rfl, NewB.nil (Ext.refl w)⟩
  case round =>
    obtain ⟨k, hk, rfl, hnew⟩ := hrel
    have HN := Lib.hid hnew
    have hf := flat_take_le ls (k + 1)
    by_cases hlt : k < ls.length
    · have hfs := flat_take_succ ls k hlt
      rw [hfs, List.length_append] at hf
      have HF := Lib.hid hfs
      obtain ⟨b, o, cap', hA, _, _, hbl, hcell⟩ := HL.out.rd.pos (by omega)
      injection hA with hA1 hA2 hA3
      subst hA1
      subst hA3
      obtain ⟨u, hu, hub⟩ := HL.out.each k hlt
      have hc := (hnew.ext.cell b (o + k) hbl).trans (hcell k u hu)
      have HU := Lib.hid (Rd.ext hub hnew.ext)
      clear hnew hcell hub hu hfs
      go_wp2_with (at_builtin; go_must (refine wpList_append_bs rfl _ _ rfl _ rfl HN.out.own _ rfl HU.out (by omega) ?_; intro v1 w1 ho1 hg1 hf1; have HN1 := Lib.hid (HN.out.app ho1 hg1 hf1); clear ho1 hg1 hf1))
      go_roundw
      case rel => exact ⟨k + 1, by omega, by go_num, by rw [HF.out]; exact HN1.out⟩
      case measure => simp [intOf]; omega
    · have e : (ls.take k).flatten = ls.flatten := by rw [show k = ls.length by omega, List.take_length]
      rw [e] at HN
      clear hnew e
      go_wp2
      go_ret
      exact ⟨_, rfl, HN.out⟩

/-- k bytes of a number, the greatest first. -/
def be (n : Nat) : Nat → List UInt8
  | 0 => []
  | k + 1 => UInt8.ofNat (n / 256 ^ k) :: be n k
theorem be_length (n : Nat) : ∀ k, (be n k).length = k
  | 0 => rfl
  | k + 1 => by simp [be, be_length n k]
theorem be_eight (n : Nat) : be n 8 = Sha.bytes8 n := by simp [be, Sha.bytes8]
theorem be_four (x : BitVec 32) : be x.toNat 4 = Sha.bytes4 x := by simp [be, Sha.bytes4]

def quo (n t : Nat) : Nat := n / 256 ^ t
theorem quo_succ (n t : Nat) : ((quo n t : Nat) : Int) / (256 : Int) = (quo n (t + 1) : Nat) := by
  have h : quo n (t + 1) = quo n t / 256 := by unfold quo; rw [Nat.pow_succ, Nat.div_div_eq_div_mul]
  rw [h]; omega
theorem one_cells (x : UInt8) : #[Value.int .u8 (i8 x)] = ([x].map B8).toArray := rfl
set_option maxRecDepth 100000 in
set_option maxHeartbeats 1000000 in
theorem put_any (n : Nat) (hn : n ≤ 18446744073709551615) (k : Nat) (hk0 : 1 ≤ k) (hk8 : k ≤ 8) (w : World) :
    Calls Try.prog 79 #[.int .u64 (n : Int), .int .i64 (k : Int)] w fun e w' => ∃ v, e = .returned v ∧ NewB w v (be n k) w' := by
  have HN := Lib.hid hn
  clear hn
  go_enter Try.func79, Try.ntmps79
  go_wp2
  go_loopw [5, 6] (fun v i wr => ∃ (r : Nat) (P : List UInt8), r ≤ k ∧ i = .int .i64 ((r : Int) - 1) ∧ NewB w v P wr ∧ P ++ be n r = be n k)
    (fun _ i _ => (intOf i + 1).toNat)
  case atStart => exact ⟨k, [], by omega, by first | rfl | (go_num) , NewB.nil (Ext.refl w), rfl⟩
  case round =>
    obtain ⟨r, P, hr, rfl, hnew, hP⟩ := hrel
    have HNW := Lib.hid hnew
    have HP := Lib.hid hP
    have hPl : P.length + r = k := by have := congrArg List.length hP; rw [List.length_append, be_length, be_length] at this; exact this
    clear hnew hP
    by_cases hlt : 0 < r
    · obtain ⟨s, rfl⟩ : ∃ s, r = s + 1 := ⟨r - 1, by omega⟩
      rw [show (((s + 1 : Nat) : Int) - 1) = (s : Int) by omega]
      have h0 : (n : Int) = (quo n 0 : Nat) := by simp [quo]
      go_wp2_with fail
      rw [h0]
      clear h0
      obtain ⟨wo, rfl⟩ : ∃ wo : World, wo = wr := ⟨_, rfl⟩
      go_loop [7, 8] (fun x i => ∃ t : Nat, t ≤ s ∧ i = .int .i64 t ∧ x = .int .u64 (quo n t : Nat)) (fun _ i => s - (intOf i).toNat)
      case atStart => exact ⟨0, by omega, rfl, rfl⟩
      case round =>
        obtain ⟨t, ht, rfl, rfl⟩ := hrel
        by_cases hts : t < s
        · go_wp2
          go_round
          case rel => exact ⟨t + 1, by omega, by go_num, by have hb : quo n t ≤ 18446744073709551615 := Nat.le_trans (Nat.div_le_self _ _) HN.out; rw [← quo_succ, IntKind.wrap_u64]; congr 1; omega⟩
          case measure => simp [intOf]; omega
        · obtain rfl : t = s := by omega
          go_wp2_with (at_builtin; simp only [m8_of_nat]; go_must (refine wpList_append_bs rfl _ _ rfl _ rfl (HNW.out.grow ((Ext.refl wo).alloc _)).own _ rfl (Bs.lit_new wo _ [UInt8.ofNat (quo n t)] (one_cells _) (by simp)) (by simp; omega) ?_; intro v1 w1 ho1 hg1 hf1; have HN1 := Lib.hid ((HNW.out.grow ((Ext.refl wo).alloc _)).app ho1 hg1 hf1); clear ho1 hg1 hf1))
          go_roundw
          case rel => exact ⟨_, _, ⟨t, by omega, rfl, P ++ [UInt8.ofNat (quo n t)], HN1.out, by rw [← HP.out]; simp [be, quo]⟩, by simp [quo], rfl, by go_num⟩
          case measure => simp [intOf]; omega
    · obtain rfl : r = 0 := by omega
      go_wp2
      go_ret
      refine ⟨_, rfl, ?_⟩
      have := HP.out
      simp only [be, List.append_nil] at this
      rw [← this]
      exact HNW.out

/-- The number that bytes spell, the greatest first. -/
def spell (l : List UInt8) : Nat := l.foldl (fun x b => x * 256 + b.toNat) 0
theorem spell_snoc (l : List UInt8) (b : UInt8) : spell (l ++ [b]) = spell l * 256 + b.toNat := by simp [spell]
theorem spell_lt_of (l : List UInt8) : ∀ a : Nat, l.foldl (fun x b => x * 256 + b.toNat) a < (a + 1) * 256 ^ l.length := by
  induction l with
  | nil => intro a; simp
  | cons b l ih =>
    intro a
    have h1 := ih (a * 256 + b.toNat)
    have h2 := b.toNat_lt
    have h3 : (a * 256 + b.toNat + 1) * 256 ^ l.length ≤ ((a + 1) * 256) * 256 ^ l.length := Nat.mul_le_mul_right _ (by omega)
    rw [List.foldl_cons, List.length_cons, Nat.pow_succ]
    have h4 : ((a + 1) * 256) * 256 ^ l.length = (a + 1) * (256 ^ l.length * 256) := by rw [Nat.mul_assoc, Nat.mul_comm 256]
    omega
theorem spell_lt (l : List UInt8) : spell l < 256 ^ l.length := by simpa [spell] using spell_lt_of l 0
theorem spell_take (l : List UInt8) (i : Nat) (hi : i < l.length) : spell (l.take (i + 1)) = spell (l.take i) * 256 + (l.getD i 0).toNat := by
  rw [List.take_add_one, ← spell_snoc]; congr 2; simp [hi]
theorem or_add (x y n : Nat) (h : y < 2 ^ n) : x * 2 ^ n ||| y = x * 2 ^ n + y := by
  rw [← Nat.shiftLeft_eq, Nat.shiftLeft_add_eq_or_of_lt h]
theorem four_word (a b c d : UInt8) : BitVec.ofNat 32 (spell [a, b, c, d]) = (Sha.b32 a <<< 24) ||| (Sha.b32 b <<< 16) ||| (Sha.b32 c <<< 8) ||| Sha.b32 d := by
  have ha := a.toNat_lt
  have hb := b.toNat_lt
  have hc := c.toNat_lt
  have hd := d.toNat_lt
  apply BitVec.eq_of_toNat_eq
  have e (x : UInt8) : (Sha.b32 x).toNat = x.toNat := by have := x.toNat_lt; simp [Sha.b32]; try omega
  simp only [BitVec.toNat_or, BitVec.toNat_shiftLeft, e, Nat.shiftLeft_eq, BitVec.toNat_ofNat]
  rw [Nat.mod_eq_of_lt (a := a.toNat * 2 ^ 24) (by omega), Nat.mod_eq_of_lt (a := b.toNat * 2 ^ 16) (by omega), Nat.mod_eq_of_lt (a := c.toNat * 2 ^ 8) (by omega)]
  rw [or_add a.toNat (b.toNat * 2 ^ 16) 24 (by omega), show a.toNat * 2 ^ 24 + b.toNat * 2 ^ 16 = (a.toNat * 256 + b.toNat) * 2 ^ 16 by omega,
    or_add _ (c.toNat * 2 ^ 8) 16 (by omega), show (a.toNat * 256 + b.toNat) * 2 ^ 16 + c.toNat * 2 ^ 8 = ((a.toNat * 256 + b.toNat) * 256 + c.toNat) * 2 ^ 8 by omega,
    or_add _ d.toNat 8 (by omega)]
  simp only [spell, List.foldl_cons, List.foldl_nil]
  omega
theorem take_drop_four (l : List UInt8) (i : Nat) (h : i + 4 ≤ l.length) : (l.take (i + 4)).drop i = [l.getD i 0, l.getD (i + 1) 0, l.getD (i + 2) 0, l.getD (i + 3) 0] := by
  apply List.ext_getElem
  · simp; omega
  · intro j h1 h2
    simp at h2
    have hj : j = 0 ∨ j = 1 ∨ j = 2 ∨ j = 3 := by omega
    rcases hj with rfl | rfl | rfl | rfl <;> simp [List.getD, List.getElem?_eq_getElem, show i < l.length by omega, show i + 1 < l.length by omega, show i + 2 < l.length by omega, show i + 3 < l.length by omega]
theorem spell_word (l : List UInt8) (k : Nat) (h : 4 * k + 4 ≤ l.length) : BitVec.ofNat 32 (spell ((l.take (4 * k + 4)).drop (4 * k))) = Sha.word l k := by
  rw [take_drop_four l _ h, four_word]; rfl
theorem spell_step (x : Nat) (b : UInt8) (hx : x < 256 ^ 7) : IntKind.u64.wrap (IntKind.u64.wrap (256 * (x : Int)) + IntKind.u64.wrap (i8 b)) = ((x * 256 + b.toNat : Nat) : Int) := by
  have := b.toNat_lt
  simp only [IntKind.wrap_u64, i8]; omega
set_option maxRecDepth 100000 in
set_option maxHeartbeats 1000000 in
theorem get_any (v : Value) (l : List UInt8) (hl : l.length ≤ 8) (w : World) (hB : Bs w v l) :
    Calls Try.prog 109 #[v] w fun e w' => e = .returned (.int .u64 (spell l : Nat)) ∧ w' = w := by
  obtain ⟨A, cap, rfl, hcap, hcm, _, _⟩ := hB.is
  have HB := Lib.hid hB
  clear hB
  go_enter Try.func109, Try.ntmps109
  go_wp2
  go_loop [3, 4] (fun x i => ∃ k : Nat, k ≤ l.length ∧ i = .int .i64 k ∧ x = .int .u64 (spell (l.take k) : Nat)) (fun _ i => l.length - (intOf i).toNat)
  case atStart => exact ⟨0, by omega, rfl, rfl⟩
  case round =>
    obtain ⟨k, hk, rfl, rfl⟩ := hrel
    by_cases hlt : k < l.length
    · obtain ⟨b, o, cap', hA, _, _, hbl, hcell⟩ := HB.out.pos (by omega)
      injection hA with hA1 hA2 hA3
      subst hA1
      subst hA3
      have hc := hcell k hlt
      clear hcell
      have hs := spell_lt (l.take k)
      rw [List.length_take, Nat.min_eq_left hk] at hs
      have hs : spell (l.take k) < 256 ^ 7 := Nat.lt_of_lt_of_le hs (Nat.pow_le_pow_right (by omega) (by omega))
      have HS := Lib.hid hs
      clear hs
      go_wp2
      go_round
      case rel => exact ⟨k + 1, by omega, by go_num, by rw [spell_take _ _ hlt, ← spell_step _ _ HS.out]; simp [hlt]⟩
      case measure => simp [intOf]; omega
    · obtain rfl : k = l.length := by omega
      go_wp2
      go_ret
      exact ⟨rfl, rfl⟩
end Go.Proofs.Ytapojpjmeadabaa
end

section
/- The reference's hash: sacristanref02.words, constants. -/
namespace Go.Proofs.Ytapojpjmeadabaa
open Go.RowKit
set_option linter.unusedVariables false
set_option linter.unusedSimpArgs false
attribute [local go_sem] lt_ext cell?_ext frozen?_ext shape?_ext u32_xor u32_or u32_and u32_not u32_not_max u32_add u32_wrap u8_wrap u32_shl24 u32_shl16 u32_shl8 u32_shr3 u32_shr10 u8_xor u8_or u32_of_u8 i32_mod i8_mod m32_add m32_shl24 m32_shl16 m32_shl8 m32_of_u8

abbrev Ws (w : World) (v : Value) (l : List (BitVec 32)) : Prop := Rd w 1 v l.length (l.map W32)
abbrev OwnW (w : World) (v : Value) (l : List (BitVec 32)) : Prop := Own w 95 1 v l.length (l.map W32)
theorem one_words (l : List (BitVec 32)) : ∀ u ∈ l.map W32, u.oneCell' = true := by
  intro u hu
  obtain ⟨x, _, rfl⟩ := List.mem_map.1 hu
  rfl
theorem Ws.pos {w : World} {v : Value} {l : List (BitVec 32)} (h : Ws w v l) (hn : 0 < l.length) :
    ∃ b o cap, v = .slice (some ⟨b, o, none⟩) l.length cap ∧ l.length ≤ cap ∧ cap ≤ maxLen ∧ b < w.heap.size ∧ ∀ i, i < l.length → w.cell? ⟨b, o + i, none⟩ = some (W32 (l.getD i 0)) := by
  obtain ⟨b, o, cap, h1, h2, h3, h4, h5⟩ := Rd.pos h hn
  exact ⟨b, o, cap, h1, h2, h3, h4, fun i hi => h5 i _ (by simp [hi])⟩
theorem wpList_append_ws {ops : Array Oper} {rest : List Oper} {o : Oper} {a : Act} {w : World} {Q : Exit → Act → World → Prop} (hgd : o.guard = none)
    (s x : Operand) (ho : o.op = .call { callee := .builtin .append, args := #[s, x], argTypes := #[96, 96] }) (v : Value) (hs : a.eval s = v) {l : List (BitVec 32)} (hown : OwnW w v l)
    (y : Value) (hx : a.eval x = y) {l' : List (BitVec 32)} (hy : Ws w y l') (h63 : l.length + l'.length ≤ 4294967296)
    (hK : ∀ v' w', OwnW w' v' (l ++ l') → Grew w w' v → (v'.ownBlock = v.ownBlock ∨ ∀ g, v'.ownBlock = some g → w.heap.size ≤ g) → wpList Try.prog ops Q rest (a.put o.dst v') w') : wpList Try.prog ops Q (o :: rest) a w :=
  wpList_append_rd ei96 hgd s x ho v hs hown y hx hy (one_words l') h63 fun v' w' h1 h2 h3 => hK v' w' (by unfold OwnW; rw [List.length_append, List.map_append]; exact h1) h2 h3
/-- New words. -/
structure NewW (w : World) (v : Value) (l : List (BitVec 32)) (w' : World) : Prop where
  own : OwnW w' v l
  ext : Ext w w'
  fr : ∀ g, v.ownBlock = some g → w.heap.size ≤ g
theorem NewW.nil {w w' : World} (h : Ext w w') : NewW w (.slice none 0 0) [] w' := ⟨Own.nil _ _ _, h, fun g hg => nomatch hg⟩
theorem NewW.ws {w w' : World} {v : Value} {l : List (BitVec 32)} (h : NewW w v l w') : Ws w' v l := Own.rd h.own
theorem NewW.grow {w w1 w2 : World} {v : Value} {l : List (BitVec 32)} (h : NewW w v l w1) (hx : Ext w1 w2) : NewW w v l w2 := ⟨h.own.ext hx, h.ext.trans hx, h.fr⟩
theorem NewW.app {w w1 w2 : World} {v v' : Value} {l l' : List (BitVec 32)} (h : NewW w v l w1) (ho : OwnW w2 v' l') (hg : Grew w1 w2 v) (hf : v'.ownBlock = v.ownBlock ∨ ∀ g, v'.ownBlock = some g → w1.heap.size ≤ g) : NewW w v' l' w2 := by
  refine ⟨ho, ?_, fun g hv => ?_⟩
  · exact (Chg.trans (S := fun _ => False) (Chg.of_ext h.ext _) (Chg.of_grew hg) (fun i hi e => by have := h.fr i e.symm; omega)).ext fun k hk => hk.elim
  · rcases hf with e | e
    · exact h.fr g (e ▸ hv)
    · exact Nat.le_trans h.ext.size (e g hv)
theorem Ws.lit_new (w : World) (c : Array Value) (l : List (BitVec 32)) (hc : c = (l.map W32).toArray) (hl : l.length ≤ 4294967296) : Ws (w.alloc (.cells c 95)) (.slice (some ⟨w.heap.size, 0, none⟩) l.length l.length) l := by
  subst hc
  refine Rd.lit (by simp) (Nat.le_refl _) (Nat.le_trans hl (by unfold maxLen; decide)) (by simp) fun j u hj => ?_
  rw [Nat.zero_add, cell_of_row _ _ _ _ _ _ (heap_alloc_last w _)]
  simpa using hj
theorem m32_of_spell (l : List UInt8) (k : Nat) (h : 4 * k + 4 ≤ l.length) : ((spell ((l.take (4 * k + 4)).drop (4 * k)) : Nat) : Int) % (4294967296 : Int) = i32 (Sha.word l k) := by
  rw [← spell_word l k h]; unfold i32; simp [BitVec.toNat_ofNat]
theorem Bs.piece {w : World} {b o : Nat} {l : List UInt8} (hb : b < w.heap.size) (hc : ∀ i, i < l.length → w.cell? ⟨b, o + i, none⟩ = some (B8 (l.getD i 0))) (i k cap : Nat) (h : i + k ≤ l.length) (hk : k ≤ cap) (hm : cap ≤ maxLen) :
    Bs w (.slice (some ⟨b, o + i, none⟩) k cap) ((l.take (i + k)).drop i) := by
  have e : ((l.take (i + k)).drop i).length = k := by rw [List.length_drop, List.length_take, Nat.min_eq_left h]; omega
  refine Bs.of_rd (n := k) (Rd.lit (by rw [List.length_map, e]; omega) hk hm hb fun j u hj => ?_) e.symm rfl
  have hj' : j < k := by
    have := (List.getElem?_eq_some_iff.1 hj).1
    rw [List.length_map, e] at this; exact this
  rw [Nat.add_assoc, hc (i + j) (by omega)]
  rw [List.getElem?_map, List.getElem?_drop, List.getElem?_take, if_pos (by omega), List.getElem?_eq_getElem (by omega)] at hj
  simpa [show i + j < l.length by omega] using hj
theorem word_cells (x : BitVec 32) : #[Value.int .u32 (i32 x)] = ([x].map W32).toArray := rfl
set_option maxRecDepth 100000 in
set_option maxHeartbeats 1000000 in
theorem words_any (v : Value) (l : List UInt8) (hl : l.length = 64) (w : World) (hB : Bs w v l) :
    Calls Try.prog 112 #[v] w fun e w' => ∃ v', e = .returned v' ∧ NewW w v' (Sha.words l 64) w' := by
  obtain ⟨b, o, cap, rfl, hcap, hcm, hbl, hcell⟩ := hB.pos (by omega)
  rw [hl] at hB ⊢
  have HC := Lib.hid hcell
  clear hB hcell
  unfold maxLen at hcm
  go_enter Try.func112, Try.ntmps112
  go_wp2
  go_loopw [3, 4] (fun v i wr => ∃ k : Nat, k ≤ 16 ∧ i = .int .i64 k ∧ NewW w v (Sha.words l k) wr) (fun _ i _ => 16 - (intOf i).toNat)
  case atStart => exact ⟨0, by omega, rfl, NewW.nil (Ext.refl w)⟩
  case round =>
    obtain ⟨k, hk, rfl, hnew⟩ := hrel
    have hlen := Sha.words_length l k
    have HN := Lib.hid hnew
    clear hnew
    by_cases hlt : k < 16
    · go_wp2_with (first | (go_at_call 109; go_must (refine (get_any _ ((l.take (4 * k + 4)).drop (4 * k)) (by simp; omega) _ (Rd.ext (Bs.piece hbl HC.out (4 * k) 4 (cap - 4 * k) (by omega) (by omega) (by unfold maxLen; omega)) HN.out.ext)).mono ?_; rintro e w1 ⟨rfl, rfl⟩)) | (at_builtin; simp only [m32_of_spell l k (show 4 * k + 4 ≤ l.length by omega)]; go_must (refine wpList_append_ws rfl _ _ rfl _ rfl (HN.out.grow ((Ext.refl _).alloc _)).own _ rfl (Ws.lit_new _ _ [Sha.word l k] (word_cells _) (by simp)) (by rw [hlen]; simp; omega) ?_; intro v1 w1 ho1 hg1 hf1; have HN1 := Lib.hid ((HN.out.grow ((Ext.refl _).alloc _)).app ho1 hg1 hf1); clear ho1 hg1 hf1)))
      go_roundw
      case rel => exact ⟨k + 1, by omega, by go_num, by simpa [Sha.words, Sha.nxt, hlt] using HN1.out⟩
      case measure => simp [intOf]; omega
    · obtain rfl : k = 16 := by omega
      go_wp2
      go_loopw [3, 5] (fun v i wr => ∃ k : Nat, 16 ≤ k ∧ k ≤ 64 ∧ i = .int .i64 k ∧ NewW w v (Sha.words l k) wr) (fun _ i _ => 64 - (intOf i).toNat)
      case atStart => exact ⟨16, by omega, by omega, rfl, HN.out⟩
      case round =>
        clear HN
        obtain ⟨k, hk1, hk2, rfl, hnew⟩ := hrel
        have hlen := Sha.words_length l k
        by_cases hlt : k < 64
        · obtain ⟨b2, o2, cap2, rfl, _, _, hb2, hcell⟩ := hnew.ws.pos (by omega)
          rw [hlen] at hcell hnew ⊢
          have c15 := hcell (k - 15) (by omega)
          have c2 := hcell (k - 2) (by omega)
          have c16 := hcell (k - 16) (by omega)
          have c7 := hcell (k - 7) (by omega)
          have HN := Lib.hid hnew
          clear hnew hcell
          go_wp2
          refine wp_region_mt 31 (by kernel_rfl) (by kernel_rfl) ?_
          simp only [List.take_succ_cons, List.take_zero, List.drop_succ_cons, List.drop_zero]
          repeat (refine gm_q rfl rfl rfl rfl (fun K hK => ?_); go_big_quiet_op; refine hK _ ?_; clear hK K)
          refine gm_c rfl rfl rfl rfl 114 #[W32 ((Sha.words l k).getD (k - 15) 0), .int .i64 7] (fun _ => by go_simp) _ (fun x => (turn_c _ _ (by decide) (by decide) _).mono fun e w' ⟨h1, h2⟩ => ⟨h1, h2 ▸ Ext.refl _⟩) ?_
          simp only [Act.put, List.setIfInBounds_toArray, List.set_cons_succ, List.set_cons_zero]
          repeat (refine gm_q rfl rfl rfl rfl (fun K hK => ?_); go_big_quiet_op; refine hK _ ?_; clear hK K)
          refine gm_c rfl rfl rfl rfl 114 #[W32 ((Sha.words l k).getD (k - 15) 0), .int .i64 18] (fun _ => by go_simp) _ (fun x => (turn_c _ _ (by decide) (by decide) _).mono fun e w' ⟨h1, h2⟩ => ⟨h1, h2 ▸ Ext.refl _⟩) ?_
          simp only [Act.put, List.setIfInBounds_toArray, List.set_cons_succ, List.set_cons_zero]
          repeat (refine gm_q rfl rfl rfl rfl (fun K hK => ?_); go_big_quiet_op; refine hK _ ?_; clear hK K)
          refine gm_c rfl rfl rfl rfl 114 #[W32 ((Sha.words l k).getD (k - 2) 0), .int .i64 17] (fun _ => by go_simp) _ (fun x => (turn_c _ _ (by decide) (by decide) _).mono fun e w' ⟨h1, h2⟩ => ⟨h1, h2 ▸ Ext.refl _⟩) ?_
          simp only [Act.put, List.setIfInBounds_toArray, List.set_cons_succ, List.set_cons_zero]
          repeat (refine gm_q rfl rfl rfl rfl (fun K hK => ?_); go_big_quiet_op; refine hK _ ?_; clear hK K)
          refine gm_c rfl rfl rfl rfl 114 #[W32 ((Sha.words l k).getD (k - 2) 0), .int .i64 19] (fun _ => by go_simp) _ (fun x => (turn_c _ _ (by decide) (by decide) _).mono fun e w' ⟨h1, h2⟩ => ⟨h1, h2 ▸ Ext.refl _⟩) ?_
          simp only [Act.put, List.setIfInBounds_toArray, List.set_cons_succ, List.set_cons_zero]
          repeat (refine gm_q rfl rfl rfl rfl (fun K hK => ?_); go_big_quiet_op; refine hK _ ?_; clear hK K)
          refine gm_v rfl rfl rfl rfl 68 rfl (fun u w' => Ws w' u [Sha.nxt l (Sha.words l k) k]) (fun _ _ _ h1 h2 => Rd.ext h2 h1) (fun x => ⟨_, _, by go_simp; exact ⟨rfl, rfl⟩, ?_, ?_⟩) ?_
          · have hnx : Sha.nxt l (Sha.words l k) k = (Sha.words l k)[k - 16]?.getD 0#32 + (Sha.rot ((Sha.words l k)[k - 15]?.getD 0#32) 7 ^^^ Sha.rot ((Sha.words l k)[k - 15]?.getD 0#32) 18 ^^^ (Sha.words l k)[k - 15]?.getD 0#32 >>> 3) + (Sha.words l k)[k - 7]?.getD 0#32 + (Sha.rot ((Sha.words l k)[k - 2]?.getD 0#32) 17 ^^^ Sha.rot ((Sha.words l k)[k - 2]?.getD 0#32) 19 ^^^ (Sha.words l k)[k - 2]?.getD 0#32 >>> 10) := by
              unfold Sha.nxt Sha.nextW
              rw [if_neg (by omega)]
              rfl
            rw [hnx]
            exact Ws.lit_new _ _ [_] (word_cells _) (by simp)
          · exact (Ext.refl _).alloc _
          refine gm_end_at rfl [(68, (fun u w' => Ws w' u [Sha.nxt l (Sha.words l k) k]))] rfl (fun xs x hk => ?_)
          have h68 := hk 68 (by simp [Act.put]) _ rfl
          simp only [fillM, Act.put, List.setIfInBounds_toArray, List.set_cons_succ, List.set_cons_zero]
          have he := ext_ext wr x
          generalize wr.ext x = w1 at *
          generalize xs 68 = v68 at *
          have H68 := Lib.hid h68
          have HE := Lib.hid he
          clear hk h68 he xs c15 c2 c16 c7
          go_wp2_with (at_builtin; go_must (refine wpList_append_ws rfl _ _ rfl _ rfl (HN.out.grow HE.out).own _ rfl H68.out (by rw [hlen]; simp; omega) ?_; intro v1 w2 ho1 hg1 hf1; have HN1 := Lib.hid ((HN.out.grow HE.out).app ho1 hg1 hf1); clear ho1 hg1 hf1))
          go_roundw
          case rel => exact ⟨k + 1, by omega, by omega, by go_num, HN1.out⟩
          case measure => simp [intOf]; omega
        · obtain rfl : k = 64 := by omega
          go_wp2
          go_ret
          exact ⟨_, rfl, hnew⟩
end Go.Proofs.Ytapojpjmeadabaa
end

section
/- The reference's hash: sacristanref02.constants, step. -/
namespace Go.Proofs.Ytapojpjmeadabaa
open Go.RowKit
set_option linter.unusedVariables false
set_option linter.unusedSimpArgs false
attribute [local go_sem] lt_ext cell?_ext frozen?_ext shape?_ext u32_xor u32_or u32_and u32_not u32_not_max u32_add u32_wrap u8_wrap u32_shl24 u32_shl16 u32_shl8 u32_shr3 u32_shr10 u8_xor u8_or u32_of_u8 i32_mod i8_mod m32_add m32_shl24 m32_shl16 m32_shl8 m32_of_u8

set_option maxRecDepth 100000 in
set_option maxHeartbeats 1000000 in
theorem constants_any (w : World) : Calls Try.prog 113 #[] w fun e w' => ∃ v', e = .returned v' ∧ Ws w' v' Sha.K ∧ Ext w w' := by
  go_enter Try.func113, Try.ntmps113
  go_wp2
  go_ret
  exact ⟨_, rfl, Ws.lit_new w _ Sha.K (by kernel_rfl) (by decide), (Ext.refl w).alloc _⟩
theorem ch_eq (e f g : BitVec 32) : (e &&& f) ||| (~~~e &&& g) = (e &&& f) ^^^ (~~~e &&& g) := by
  apply BitVec.eq_of_getLsbD_eq
  intro i hi
  simp only [BitVec.getLsbD_or, BitVec.getLsbD_and, BitVec.getLsbD_xor, BitVec.getLsbD_not, hi, decide_true, Bool.true_and]
  cases e.getLsbD i <;> cases f.getLsbD i <;> cases g.getLsbD i <;> rfl
theorem maj_eq (a b c : BitVec 32) : (a &&& b) ||| (a &&& c) ||| (b &&& c) = (a &&& b) ^^^ (a &&& c) ^^^ (b &&& c) := by
  apply BitVec.eq_of_getLsbD_eq
  intro i hi
  simp only [BitVec.getLsbD_or, BitVec.getLsbD_and, BitVec.getLsbD_xor]
  cases a.getLsbD i <;> cases b.getLsbD i <;> cases c.getLsbD i <;> rfl
/-- The rounds with the constants under a name. -/
def roundsK (KK ws : List (BitVec 32)) (st : Sha.St) : Nat → Sha.St
  | 0 => st
  | n + 1 => Sha.round (roundsK KK ws st n) (KK.getD n 0) (ws.getD n 0)
theorem roundsK_eq (ws : List (BitVec 32)) (st : Sha.St) : ∀ n, roundsK Sha.K ws st n = Sha.rounds st ws n
  | 0 => rfl
  | n + 1 => by unfold roundsK Sha.rounds; rw [roundsK_eq ws st n]
theorem eight_cells (s : Sha.St) : #[W32 s.a, W32 s.b, W32 s.c, W32 s.d, W32 s.e, W32 s.f, W32 s.g, W32 s.h] = (s.toList.map W32).toArray := rfl
set_option maxRecDepth 100000 in
set_option maxHeartbeats 1000000 in
theorem step_of (KK ws : List (BitVec 32)) (hK64 : KK.length = 64) (hw64 : ws.length = 64) (st : Sha.St) (sv v : Value) (l : List UInt8) (hl : l.length = 64) (hKK : Hid (KK = Sha.K)) (hws : Hid (ws = Sha.words l 64)) (w : World) (hS : Ws w sv st.toList) (hB : Bs w v l) :
    Calls Try.prog 80 #[sv, v] w fun e w' => ∃ v', e = .returned v' ∧ NewW w v' (Sha.block st l).toList w' := by
  have HS := Lib.hid hS
  have HB := Lib.hid hB
  clear hS hB
  go_enter Try.func80, Try.ntmps80
  go_wp2_with (first | (go_at_call 112; go_must (refine (words_any v l hl _ HB.out).mono ?_; rintro e w1 ⟨v1, rfl, hN1⟩; rw [← hws.out] at hN1; have HN1 := Lib.hid hN1; clear hN1)) | (go_at_call 113; go_must (refine (constants_any w1).mono ?_; rintro e w2 ⟨v2, rfl, hK, hE2⟩; rw [← hKK.out] at hK; have HK := Lib.hid hK; have HE2 := Lib.hid (HN1.out.ext.trans hE2); have HV := Lib.hid (HN1.out.ws.ext hE2); clear hK hE2)) | (at_builtin; go_must (refine wpList_append_ws rfl _ _ rfl (.slice none 0 0) rfl (l := []) (Own.nil _ _ _) _ rfl (HS.out.ext HE2.out) (by simp [Sha.St.toList]) ?_; intro v7 w3 ho7 hg7 hf7; have hx3 := Chg.ext (Chg.of_grew hg7) (fun k hk => nomatch hk); have H7 := Lib.hid (Own.rd ho7); have HX3 := Lib.hid (HE2.out.trans hx3); have HV3 := Lib.hid (HV.out.ext hx3); have HK3 := Lib.hid (HK.out.ext hx3); clear ho7 hg7 hf7 hx3)))
  go_loopw [7, 8] (fun v i wr => ∃ k : Nat, k ≤ 64 ∧ i = .int .i64 k ∧ Ext w3 wr ∧ Ws wr v (roundsK KK ws st k).toList) (fun _ i _ => 64 - (intOf i).toNat)
  case atStart => exact ⟨0, by omega, rfl, Ext.refl _, H7.out⟩
  case round =>
    obtain ⟨k, hk, rfl, hE, hW⟩ := hrel
    by_cases hlt : k < 64
    · obtain ⟨s, hs⟩ : ∃ s, roundsK KK ws st k = s := ⟨_, rfl⟩
      rw [hs] at hW
      have HSs := Lib.hid hs
      obtain ⟨b7, o7, cap7, rfl, _, _, hb7, hc7⟩ := hW.pos (by simp [Sha.St.toList])
      obtain ⟨b6, o6, cap6, rfl, _, _, hb6, hc6⟩ := Ws.pos (l := KK) (HK3.out.ext hE) (by omega)
      obtain ⟨b5, o5, cap5, rfl, _, _, hb5, hc5⟩ := Ws.pos (l := ws) (HV3.out.ext hE) (by omega)
      have a0 : wr.cell? ⟨b7, o7 + 0, none⟩ = some (W32 s.a) := hc7 0 (by simp [Sha.St.toList])
      have a1 : wr.cell? ⟨b7, o7 + 1, none⟩ = some (W32 s.b) := hc7 1 (by simp [Sha.St.toList])
      have a2 : wr.cell? ⟨b7, o7 + 2, none⟩ = some (W32 s.c) := hc7 2 (by simp [Sha.St.toList])
      have a3 : wr.cell? ⟨b7, o7 + 3, none⟩ = some (W32 s.d) := hc7 3 (by simp [Sha.St.toList])
      have a4 : wr.cell? ⟨b7, o7 + 4, none⟩ = some (W32 s.e) := hc7 4 (by simp [Sha.St.toList])
      have a5 : wr.cell? ⟨b7, o7 + 5, none⟩ = some (W32 s.f) := hc7 5 (by simp [Sha.St.toList])
      have a6 : wr.cell? ⟨b7, o7 + 6, none⟩ = some (W32 s.g) := hc7 6 (by simp [Sha.St.toList])
      have a7 : wr.cell? ⟨b7, o7 + 7, none⟩ = some (W32 s.h) := hc7 7 (by simp [Sha.St.toList])
      have ak := hc6 k (by omega)
      have aw := hc5 k (by omega)
      generalize hKk : KK.getD k 0 = kk at ak
      generalize hWk : ws.getD k 0 = wk at aw
      rw [Nat.add_zero] at a0
      have HE := Lib.hid hE
      have HWW := Lib.hid hW
      have HKK := Lib.hid hKk
      have HWK := Lib.hid hWk
      clear hE hW hc7 hc6 hc5 hKk hWk hs
      rw [hK64, hw64, show s.toList.length = 8 from rfl]
      go_wp2
      refine wp_region_qx (by kernel_rfl) (by kernel_rfl) ?_
      repeat (go_big_quiet_step (exact Calls.in_ext_same (turn_c _ _ (by decide) (by decide) _)))
      refine wpQuiet_nil ?_
      intro x
      have ht1 : s.h + (Sha.rot s.e 6 ^^^ Sha.rot s.e 11 ^^^ Sha.rot s.e 25) + (s.e &&& s.f ||| ~~~s.e &&& s.g) + kk + wk = Sha.t1 s kk wk := by unfold Sha.t1; rw [ch_eq]
      rw [ht1]
      clear ht1
      have hx1 := ext_ext wr x
      rw [← cell?_ext wr x _ _ hb7] at a0 a1 a2 a3 a4 a5 a6 a7
      have hb7 : b7 < (wr.ext x).heap.size := Nat.lt_of_lt_of_le hb7 hx1.size
      generalize wr.ext x = wa at *
      have HE1 := Lib.hid (HE.out.trans hx1)
      clear hx1 ak aw
      go_wp2
      refine wp_region_qx (by kernel_rfl) (by kernel_rfl) ?_
      repeat (go_big_quiet_step (exact Calls.in_ext_same (turn_c _ _ (by decide) (by decide) _)))
      refine wpQuiet_nil ?_
      intro y
      have ht2 : (Sha.rot s.a 2 ^^^ Sha.rot s.a 13 ^^^ Sha.rot s.a 22) + (s.a &&& s.b ||| s.a &&& s.c ||| s.b &&& s.c) = Sha.t2 s := by unfold Sha.t2; rw [maj_eq]
      rw [ht2]
      clear ht2
      have hx1 := ext_ext wa y
      rw [← cell?_ext wa y _ _ hb7] at a0 a1 a2 a3 a4 a5 a6 a7
      have hb7 : b7 < (wa.ext y).heap.size := Nat.lt_of_lt_of_le hb7 hx1.size
      generalize wa.ext y = wb at *
      have HE2 := Lib.hid (HE1.out.trans hx1)
      clear hx1 HE1 HE
      go_wp2
      refine wp_region_qxt 26 (by kernel_rfl) (by kernel_rfl) ?_
      simp only [List.take_succ_cons, List.take_zero, List.drop_succ_cons, List.drop_zero]
      repeat (go_big_quiet_step (fail))
      refine wpQuiet_nil ?_
      intro z
      have hx1 := ext_ext wb z
      generalize wb.ext z = wc at *
      have HE3 := Lib.hid (HE2.out.trans hx1)
      clear hx1 HE2 a0 a1 a2 a3 a4 a5 a6 a7 hb7
      go_wp2
      go_roundw
      case rel =>
        refine ⟨k + 1, by omega, by go_num, HE3.out.trans ((Ext.refl _).alloc _), ?_⟩
        have hr : roundsK KK ws st (k + 1) = Sha.round s (KK.getD k 0) (ws.getD k 0) := by rw [← HSs.out]; rfl
        rw [hr, HKK.out, HWK.out]
        exact Ws.lit_new wc _ (Sha.round s kk wk).toList (eight_cells (Sha.round s kk wk)) (by simp [Sha.St.toList])
      case measure => simp [intOf]; omega
    · obtain rfl : k = 64 := by omega
      have hfin : st.add (roundsK KK ws st 64) = Sha.block st l := by
        rw [hKK.out, hws.out, roundsK_eq]; rfl
      generalize roundsK KK ws st 64 = x at *
      have HFIN := Lib.hid hfin
      obtain ⟨b7, o7, cap7, rfl, _, _, hb7, hc7⟩ := hW.pos (by simp [Sha.St.toList])
      obtain ⟨b0, o0, cap0, rfl, _, _, hb0, hc0⟩ := Ws.pos (l := st.toList) (HS.out.ext (HX3.out.trans hE)) (by simp [Sha.St.toList])
      have HC7 := Lib.hid hc7
      have HC0 := Lib.hid hc0
      have HEW := Lib.hid (HX3.out.trans hE)
      clear hE hW hc7 hc0 hfin
      obtain ⟨wo, rfl⟩ : ∃ wo : World, wo = wr := ⟨_, rfl⟩
      go_wp2
      go_loopw [11, 12] (fun v i wr => ∃ k : Nat, k ≤ 8 ∧ i = .int .i64 k ∧ NewW wo v ((st.add x).toList.take k) wr) (fun _ i _ => 8 - (intOf i).toNat)
      case atStart => exact ⟨0, by omega, rfl, NewW.nil (Ext.refl _)⟩
      case round =>
        obtain ⟨j, hj, rfl, hnew⟩ := hrel
        have hlj : ((st.add x).toList.take j).length = j := by rw [List.length_take]; simp [Sha.St.toList]; omega
        by_cases hlt : j < 8
        · have c7 := (hnew.ext.cell b7 (o7 + j) hb7).trans (HC7.out j hlt)
          have c0 := (hnew.ext.cell b0 (o0 + j) hb0).trans (HC0.out j hlt)
          have hb7' := Nat.lt_of_lt_of_le hb7 hnew.ext.size
          have hb0' := Nat.lt_of_lt_of_le hb0 hnew.ext.size
          have hsum : st.toList.getD j 0 + x.toList.getD j 0 = (st.add x).toList.getD j 0 := by
            rcases below8 j hlt with h|h|h|h|h|h|h|h <;> subst h <;> rfl
          have htk : (st.add x).toList.take (j + 1) = (st.add x).toList.take j ++ [(st.add x).toList.getD j 0] := by
            rcases below8 j hlt with h|h|h|h|h|h|h|h <;> subst h <;> rfl
          generalize st.toList.getD j 0 = p at *
          generalize x.toList.getD j 0 = q at *
          generalize (st.add x).toList.getD j 0 = r at *
          generalize hP : (st.add x).toList.take j = P at *
          have HTK := Lib.hid htk
          have HN := Lib.hid hnew
          have HP := Lib.hid hP
          have HSUM := Lib.hid hsum
          clear hnew htk hP hsum
          rw [show x.toList.length = 8 from rfl, show st.toList.length = 8 from rfl]
          go_wp2
          refine wp_region_mt 11 (by kernel_rfl) (by kernel_rfl) ?_
          simp only [List.take_succ_cons, List.take_zero, List.drop_succ_cons, List.drop_zero]
          repeat (refine gm_q rfl rfl rfl rfl (fun K hK => ?_); go_big_quiet_op; refine hK _ ?_; clear hK K)
          refine gm_v rfl rfl rfl rfl 147 rfl (fun u w' => Ws w' u [r]) (fun _ _ _ h1 h2 => Rd.ext h2 h1) (fun x => ⟨_, _, by go_simp; exact ⟨rfl, rfl⟩, ?_, ?_⟩) ?_
          · rw [HSUM.out]
            exact Ws.lit_new _ _ [_] (word_cells _) (by simp)
          · exact (Ext.refl _).alloc _
          refine gm_end_at rfl [(147, (fun u w' => Ws w' u [r]))] rfl (fun xs z hk => ?_)
          have h68 := hk 147 (by simp [Act.put]) _ rfl
          simp only [fillM, Act.put, List.setIfInBounds_toArray, List.set_cons_succ, List.set_cons_zero]
          have he := ext_ext wr z
          generalize wr.ext z = w9 at *
          generalize xs 147 = v9 at *
          have H68 := Lib.hid h68
          have HE := Lib.hid he
          clear hk h68 he xs c7 c0
          go_wp2_with (at_builtin; go_must (refine wpList_append_ws rfl _ _ rfl _ rfl (HN.out.grow HE.out).own _ rfl H68.out (by rw [hlj]; simp; omega) ?_; intro v10 w10 ho1 hg1 hf1; have HN1 := Lib.hid ((HN.out.grow HE.out).app ho1 hg1 hf1); clear ho1 hg1 hf1))
          go_roundw
          case rel => exact ⟨j + 1, by omega, by go_num, by rw [HTK.out]; exact HN1.out⟩
          case measure => simp [intOf]; omega
        · obtain rfl : j = 8 := by omega
          have HN := Lib.hid hnew
          clear hnew
          go_wp2
          go_ret
          refine ⟨_, rfl, ?_⟩
          have h := HN.out
          rw [← HFIN.out]
          exact ⟨h.own, HEW.out.trans h.ext, fun g hg => Nat.le_trans HEW.out.size (h.fr g hg)⟩
theorem step_any (st : Sha.St) (sv v : Value) (l : List UInt8) (hl : l.length = 64) (w : World) (hS : Ws w sv st.toList) (hB : Bs w v l) :
    Calls Try.prog 80 #[sv, v] w fun e w' => ∃ v', e = .returned v' ∧ NewW w v' (Sha.block st l).toList w' :=
  step_of Sha.K (Sha.words l 64) rfl (Sha.words_length _ _) st sv v l hl (Lib.hid rfl) (Lib.hid rfl) w hS hB
end Go.Proofs.Ytapojpjmeadabaa
end

section
/- The reference's hash: sacristanref02.Sum. -/
namespace Go.Proofs.Ytapojpjmeadabaa
open Go.RowKit
set_option linter.unusedVariables false
set_option linter.unusedSimpArgs false
attribute [local go_sem] lt_ext cell?_ext frozen?_ext shape?_ext u32_wrap u8_wrap i32_mod i8_mod

/-- The first n of 32 bytes, and zeros. -/
def fill (O : List UInt8) (n : Nat) : List UInt8 := O.take n ++ Sha.zeros (32 - n)
theorem fill_length (O : List UInt8) (n : Nat) (hO : O.length = 32) (hn : n ≤ 32) : (fill O n).length = 32 := by simp [fill, Sha.zeros, hO]; omega
theorem fill_set (O : List UInt8) (n : Nat) (hO : O.length = 32) (hn : n < 32) : (fill O n).set n (O.getD n 0) = fill O (n + 1) := by
  apply List.ext_getElem?
  intro i
  unfold fill Sha.zeros
  have h1 : (O.take n).length = n := by rw [List.length_take]; omega
  have h2 : (O.take (n + 1)).length = n + 1 := by rw [List.length_take]; omega
  rw [List.getElem?_set]
  by_cases hi : n = i
  · subst hi
    rw [if_pos rfl, if_pos (by simp; omega), List.getElem?_append_left (by omega), List.getElem?_take, if_pos (by omega)]
    simp [List.getD, show n < O.length by omega]
  · rw [if_neg hi]
    by_cases hlt : i < n
    · rw [List.getElem?_append_left (by omega), List.getElem?_append_left (by omega), List.getElem?_take, List.getElem?_take, if_pos hlt, if_pos (by omega)]
    · rw [List.getElem?_append_right (by omega), List.getElem?_append_right (by omega), h1, h2, List.getElem?_replicate, List.getElem?_replicate]
      by_cases h3 : i - n < 32 - n
      · rw [if_pos h3, if_pos (by omega)]
      · rw [if_neg h3, if_neg (by omega)]
theorem out_at (s : Sha.St) (k j : Nat) (hk : k < 8) (hj : j < 4) : (Sha.out s).getD (4 * k + j) 0 = (be (s.toList.getD k 0).toNat 4).getD j 0 := by
  rw [be_four]
  have h4 : j = 0 ∨ j = 1 ∨ j = 2 ∨ j = 3 := by omega
  rcases below8 k hk with h|h|h|h|h|h|h|h <;> subst h <;> rcases h4 with h|h|h|h <;> subst h <;> rfl
theorem piece_next (P : List UInt8) (k : Nat) : P.take (64 * (k + 1)) = P.take (64 * k) ++ (P.take (64 * k + 64)).drop (64 * k) := by
  have h := List.take_append_drop (64 * k) (P.take (64 * k + 64))
  rw [List.take_take, Nat.min_eq_left (by omega)] at h
  rw [h, show 64 * (k + 1) = 64 * k + 64 by omega]
theorem u64_i32 (x : BitVec 32) : IntKind.u64.wrap (i32 x) = ((x.toNat : Nat) : Int) := by
  have := x.isLt
  rw [IntKind.wrap_u64]; unfold i32; omega
theorem Chg.cell1 {w w' : World} {g : Nat} (h : Chg w w' (· = g)) (i : Nat) (x : Value) : Chg w (w'.setCell ⟨g, i, none⟩ x) (· = g) :=
  Chg.trans h (S := (· = g)) ⟨rfl, by simp, rfl, by simp, fun k hk hn => heap_setCell_other _ _ _ _ (by simpa using hn)⟩ fun _ _ e => e
theorem Chg.cell {w w' : World} {S : Nat → Prop} (h : Chg w w' S) (b i : Nat) (hb : b < w.heap.size) (hS : ¬ S b) : w'.cell? ⟨b, i, none⟩ = w.cell? ⟨b, i, none⟩ := World.cell?_of_block (h.block b hb hS)
theorem fill_zero (O : List UInt8) : fill O 0 = Sha.zeros 32 := by simp [fill]
theorem fill_all (O : List UInt8) (hO : O.length = 32) : fill O 32 = O := by simp [fill, Sha.zeros, List.take_of_length_le (Nat.le_of_eq hO)]
theorem init_cells : #[Value.int .u32 1779033703, .int .u32 3144134277, .int .u32 1013904242, .int .u32 2773480762, .int .u32 1359893119, .int .u32 2600822924, .int .u32 528734635, .int .u32 1541459225] = (Sha.init.toList.map W32).toArray := by kernel_rfl

set_option maxRecDepth 100000 in
set_option maxHeartbeats 2000000 in
theorem refsum_any (v : Value) (l : List UInt8) (hle : l.length ≤ 2147483648) (w : World) (hB : Bs w v l) :
    Calls Try.prog 31 #[v] w fun e w' => e = .returned (Dig (Sha.sum l)) ∧ Ext w w' := by
  obtain ⟨A, cap, rfl, hcap, hcm, _, _⟩ := hB.is
  have HB := Lib.hid hB
  clear hB
  go_enter Try.func31, Try.ntmps31
  go_wp2_with (first | (refine wpl_alloc_agg (w := w) rfl 27 rfl _ zero27.1 ?_; have hw0 : Ext w (w.alloc (.cells (row8 (Sha.zeros 32)) 27)) := (Ext.refl w).alloc _; have hR0 : (w.alloc (.cells (row8 (Sha.zeros 32)) 27)).heap[w.heap.size]? = some (.cells (row8 (Sha.zeros 32)) 27 (0, 0)) := heap_alloc_last w _; have hs0 : w.heap.size < (w.alloc (.cells (row8 (Sha.zeros 32)) 27)).heap.size := (by simp); generalize w.alloc (.cells (row8 (Sha.zeros 32)) 27) = w0 at *; have HW0 := Lib.hid hw0; have HR0 := Lib.hid hR0; have HS0 := Lib.hid hs0; clear hw0 hR0 hs0) | (at_builtin; refine wpList_append_bs (w := w0) rfl _ _ rfl (.slice none 0 0) rfl (l := []) (Own.nil _ _ _) _ rfl (HB.out.ext HW0.out) (by simp; omega) ?_; intro v1 w1 ho1 hg1 hf1; have HN1 := Lib.hid ((NewB.nil (Ext.refl w0)).app ho1 hg1 hf1); clear ho1 hg1 hf1) | (at_builtin; go_must (refine wpList_append_bs rfl _ _ rfl _ rfl (HN1.out.grow ((Ext.refl w1).alloc _)).own _ rfl (Bs.lit_new _ _ [0x80] rfl (by decide)) (by simp; omega) ?_; intro v2 w2 ho1 hg1 hf1; have HN2 := Lib.hid ((HN1.out.grow ((Ext.refl w1).alloc _)).app ho1 hg1 hf1); clear ho1 hg1 hf1)))
  have HN2' : Hid (NewB w0 v2 (l ++ [0x80] ++ Sha.zeros 0) w2) := by have h := HN2.out; simp only [List.nil_append] at h; exact Lib.hid (by simpa [Sha.zeros] using h)
  clear HN1 HN2
  go_loopg [3] (Sha.padZ l.length) (fun kq v wr => ∃ j, j + kq = Sha.padZ l.length ∧ NewB w0 v (l ++ [0x80] ++ Sha.zeros j) wr)
  case atStart => exact ⟨0, by omega, HN2'.out⟩
  case round =>
    obtain ⟨j, hj, hnew⟩ := hrel
    have hlen : (l ++ [0x80] ++ Sha.zeros j).length = l.length + 1 + j := by simp [Sha.zeros]; omega
    obtain ⟨A3, c3, rfl, hc3, hm3, _, _⟩ := hnew.bs.is
    rw [hlen] at hnew hc3 ⊢
    unfold maxLen at hm3
    have HN := Lib.hid hnew
    have hpl : Sha.padZ l.length < 64 := by unfold Sha.padZ; omega
    clear hnew
    by_cases hq : gk = 0
    · have hj2 : j = Sha.padZ l.length := by omega
      have e56 : (((l.length : Int) + 1 + (j : Int)) % 64 != 56) = false := by
        simp only [bne_eq_false_iff_eq]
        unfold Sha.padZ at hj2
        omega
      have HJ2 := Lib.hid hj2
      clear hj2
      have hpm : l ++ [0x80] ++ Sha.zeros j ++ Sha.bytes8 (8 * l.length) = Sha.padded l := by rw [HJ2.out]; rfl
      have HPM := Lib.hid hpm
      clear hpm
      go_wp2_with (first | (go_at_call 79; go_must (rw [show (8 * (l.length : Int)) = ((8 * l.length : Nat) : Int) by omega]; refine (put_any (8 * l.length) (by omega) 8 (by decide) (by decide) _).mono ?_; rintro e w4 ⟨v4, rfl, hP⟩; rw [be_eight] at hP; have HP4 := Lib.hid hP; clear hP)) | (at_builtin; go_must (refine wpList_append_bs rfl _ _ rfl _ rfl (HN.out.grow HP4.out.ext).own _ rfl HP4.out.bs (by simp [Sha.zeros, Sha.bytes8]; omega) ?_; intro v5 w5 ho1 hg1 hf1; have HN5 := Lib.hid ((HN.out.grow HP4.out.ext).app ho1 hg1 hf1); clear ho1 hg1 hf1; rw [HPM.out] at HN5)))
      have hWI : Ws (w5.alloc (.cells #[Value.int .u32 1779033703, .int .u32 3144134277, .int .u32 1013904242, .int .u32 2773480762, .int .u32 1359893119, .int .u32 2600822924, .int .u32 528734635, .int .u32 1541459225] 95)) (.slice (some ⟨w5.heap.size, 0, none⟩) 8 8) Sha.init.toList := Ws.lit_new w5 _ Sha.init.toList init_cells (by decide)
      have hx6 : Ext w5 (w5.alloc (.cells #[Value.int .u32 1779033703, .int .u32 3144134277, .int .u32 1013904242, .int .u32 2773480762, .int .u32 1359893119, .int .u32 2600822924, .int .u32 528734635, .int .u32 1541459225] 95)) := (Ext.refl _).alloc _
      generalize w5.alloc (.cells #[Value.int .u32 1779033703, .int .u32 3144134277, .int .u32 1013904242, .int .u32 2773480762, .int .u32 1359893119, .int .u32 2600822924, .int .u32 528734635, .int .u32 1541459225] 95) = w6 at *
      generalize (Value.slice (some ⟨w5.heap.size, 0, none⟩) 8 8) = v6 at *
      have hPl : (Sha.padded l).length ≤ 2147483800 := by rw [Sha.padded_length]; omega
      have hPm := Sha.padded_mod l
      have hPp : 0 < (Sha.padded l).length := by rw [Sha.padded_length]; omega
      have hsum : Sha.out (Sha.foldN ((Sha.padded l).length / 64) Sha.init (Sha.padded l)) = Sha.sum l := rfl
      obtain ⟨st0, hst0⟩ : ∃ st0, Sha.init = st0 := ⟨_, rfl⟩
      rw [hst0] at hWI hsum
      generalize Sha.padded l = P at *
      obtain ⟨N, hNl⟩ : ∃ N, P.length = 64 * N := ⟨P.length / 64, by omega⟩
      rw [show P.length / 64 = N by omega] at hsum
      obtain ⟨b3, o3, cap3, rfl, hc33, hm33, hb3, hcell3⟩ := (HN5.out.grow hx6).bs.pos (by omega)
      rw [hNl] at hc33 ⊢
      have HN6 := Lib.hid (HN5.out.grow hx6)
      have HWI := Lib.hid hWI
      have HSUM := Lib.hid hsum
      have HC3 := Lib.hid hcell3
      unfold maxLen at hm33
      clear hx6 hWI hst0 hsum hcell3 hPm HJ2 HPM HP4 HN HN5
      clear e56
      go_loopw [4, 5] (fun v i wr => ∃ k : Nat, k ≤ N ∧ i = .int .i64 ((64 * k : Nat) : Int) ∧ Ext w6 wr ∧ Ws wr v (Sha.foldN k st0 (P.take (64 * k))).toList) (fun _ i _ => 64 * N - (intOf i).toNat)
      case atStart => exact ⟨0, by omega, rfl, Ext.refl _, by simpa [Sha.foldN] using HWI.out⟩
      case round =>
        obtain ⟨k, hk, rfl, hE, hW⟩ := hrel
        have HE := Lib.hid hE
        have HW := Lib.hid hW
        have hb3' := Nat.lt_of_lt_of_le hb3 hE.size
        clear hE hW
        by_cases hlt : k < N
        · have hpc : Bs wr (.slice (some ⟨b3, o3 + 64 * k, none⟩) 64 (cap3 - 64 * k)) ((P.take (64 * k + 64)).drop (64 * k)) := Rd.ext (Bs.piece hb3 HC3.out (64 * k) 64 (cap3 - 64 * k) (by omega) (by omega) (by unfold maxLen; omega)) HE.out
          have hpl : ((P.take (64 * k + 64)).drop (64 * k)).length = 64 := by rw [List.length_drop, List.length_take, Nat.min_eq_left (by omega)]; omega
          have htl : (P.take (64 * k)).length = 64 * k := by rw [List.length_take, Nat.min_eq_left (by omega)]
          have hfold : Sha.foldN (k + 1) st0 (P.take (64 * (k + 1))) = Sha.block (Sha.foldN k st0 (P.take (64 * k))) ((P.take (64 * k + 64)).drop (64 * k)) := by
            rw [piece_next, Sha.foldN_snoc _ _ _ _ htl hpl]
          generalize (P.take (64 * k + 64)).drop (64 * k) = pc at *
          generalize Sha.foldN k st0 (P.take (64 * k)) = sk at *
          have HPC := Lib.hid hpc
          have HF := Lib.hid hfold
          clear hpc hfold htl
          go_wp2_with (go_at_call 80; go_must (refine (step_any sk _ _ pc hpl wr HW.out HPC.out).mono ?_; rintro e w7 ⟨v7, rfl, hN7⟩; have HN7 := Lib.hid hN7; clear hN7))
          go_roundw
          case rel => exact ⟨k + 1, by omega, by go_num, HE.out.trans HN7.out.ext, by rw [HF.out]; exact HN7.out.ws⟩
          case measure => simp [intOf]; omega
        · obtain rfl : k = N := by omega
          have e : P.take (64 * k) = P := List.take_of_length_le (by omega)
          have hs : Sha.out (Sha.foldN k st0 (P.take (64 * k))) = Sha.sum l := by rw [e, HSUM.out]
          generalize Sha.foldN k st0 (P.take (64 * k)) = sk at *
          have HS := Lib.hid hs
          have HE1 := Lib.hid (HW0.out.trans (HN6.out.ext.trans HE.out))
          have hR : wr.heap[w.heap.size]? = some (.cells (row8 (Sha.zeros 32)) 27 (0, 0)) := ((HN6.out.ext.trans HE.out).block HS0.out).trans HR0.out
          have hsR : w.heap.size < wr.heap.size := (Array.getElem?_eq_some_iff.1 hR).1
          have HR := Lib.hid hR
          clear hs e hR HE HN6 HR0
          obtain ⟨wz, rfl⟩ : ∃ wz : World, wz = wr := ⟨_, rfl⟩
          go_wp2_with (first | (refine wpl_alloc_agg rfl 27 rfl _ zero27.1 ?_) | (refine wpl_store27 rfl _ _ rfl wz.heap.size (Sha.zeros 32) (Sha.zeros 32) rfl rfl (by simp [Sha.zeros]) (by simp [Sha.zeros]) (heap_alloc_last wz _) ?_; intro w8 h8 hu8; have H8 := Lib.hid h8; have HE8 := Lib.hid (((Ext.refl wz).alloc _).upd_new hu8 (Nat.le_refl _)); clear h8 hu8))
          obtain ⟨b4, o4, cap4, rfl, _, _, hb4, hc4⟩ := Ws.pos (l := sk.toList) HW.out (by simp [Sha.St.toList])
          have hO32 : (Sha.out sk).length = 32 := Sha.out_length sk
          have HC4 := Lib.hid hc4
          clear hc4
          rw [show sk.toList.length = 8 from rfl]
          go_loopw [7] (fun i ws => ∃ k : Nat, k ≤ 8 ∧ i = .int .i64 k ∧ Ext wz ws ∧ ws.heap[wz.heap.size]? = some (.cells (row8 (fill (Sha.out sk) (4 * k))) 27 (0, 0))) (fun i _ => 8 - (intOf i).toNat)
          case atStart => exact ⟨0, by omega, rfl, HE8.out, by rw [H8.out]; rfl⟩
          case round =>
            obtain ⟨k, hk, rfl, hE, hF⟩ := hrel
            have HE := Lib.hid hE
            have HF := Lib.hid hF
            by_cases hlt : k < 8
            · have c4 := (hE.cell b4 (o4 + k) hb4).trans (HC4.out k hlt)
              have hout := out_at sk k
              have hb4' := Nat.lt_of_lt_of_le hb4 hE.size
              generalize sk.toList.getD k 0 = x at *
              have HOUT := Lib.hid hout
              clear hE hF hout
              go_wp2_with (go_at_call 79; go_must (rw [u64_i32]; refine (put_any x.toNat (by have := x.isLt; omega) 4 (by decide) (by decide) _).mono ?_; rintro e w9 ⟨v9, rfl, hP⟩; have HP9 := Lib.hid hP; clear hP))
              obtain ⟨b9, o9, cap9, rfl, _, _, hb9, hc9⟩ := HP9.out.bs.pos (by rw [be_length]; omega)
              have hfr := HP9.out.fr b9 rfl
              have hgr : wz.heap.size < wr.heap.size := (Array.getElem?_eq_some_iff.1 HF.out).1
              have hF9 : w9.heap[wz.heap.size]? = some (.cells (row8 (fill (Sha.out sk) (4 * k))) 27 (0, 0)) := (HP9.out.ext.block hgr).trans HF.out
              have HF9 := Lib.hid hF9
              rw [be_length] at hc9 ⊢
              have HC9 := Lib.hid hc9
              have HE9 := Lib.hid (HE.out.trans HP9.out.ext)
              clear hF9 hc9 HF HE HP9
              go_wp2
              go_loopw [9] (fun i ws => ∃ j : Nat, j ≤ 4 ∧ i = .int .i64 j ∧ Chg w9 ws (· = wz.heap.size) ∧ ws.heap[wz.heap.size]? = some (.cells (row8 (fill (Sha.out sk) (4 * k + j))) 27 (0, 0))) (fun i _ => 4 - (intOf i).toNat)
              case atStart => exact ⟨0, by omega, rfl, Chg.refl _ _, HF9.out⟩
              case round =>
                obtain ⟨j, hj, rfl, hC, hF⟩ := hrel
                have HC := Lib.hid hC
                have HF := Lib.hid hF
                by_cases hlj : j < 4
                · have c9 := (hC.cell b9 (o9 + j) hb9 (by omega)).trans (HC9.out j hlj)
                  have hb9' := Nat.lt_of_lt_of_le hb9 hC.size
                  rw [← HOUT.out j hlt hlj] at c9
                  have hcell : wr.cell? ⟨wz.heap.size, 4 * k + j, none⟩ = some (B8 ((fill (Sha.out sk) (4 * k + j)).getD (4 * k + j) 0)) := by
                    rw [cell_of_row _ _ _ _ _ _ hF]; exact row8_get (by rw [fill_length _ _ hO32 (by omega)]; omega)
                  have hf : wr.frozen? ⟨wz.heap.size, 4 * k + j, none⟩ = false := frozen_of_row _ _ _ _ _ hF
                  clear hC hF
                  go_wp2
                  go_roundw
                  case rel =>
                    refine ⟨j + 1, by omega, by go_num, HC.out.cell1 _ _, ?_⟩
                    have h1 := heap_setCell_same _ _ (4 * k + j) _ _ (B8 ((Sha.out sk).getD (4 * k + j) 0)) HF.out
                    rw [row8_set, fill_set _ _ hO32 (by omega)] at h1
                    exact h1
                  case measure => simp [intOf]; omega
                · obtain rfl : j = 4 := by omega
                  clear hC hF
                  go_wp2
                  go_roundw
                  case rel => exact ⟨k + 1, by omega, by go_num, (Chg.trans (S := fun _ => False) (Chg.of_ext HE9.out _) HC.out (fun i hi e => by omega)).ext fun k hk => hk.elim, by rw [show 4 * (k + 1) = 4 * k + 4 by omega]; exact HF.out⟩
                  case measure => simp [intOf]; omega
            · obtain rfl : k = 8 := by omega
              rw [show 4 * 8 = 32 from rfl, fill_all _ hO32] at hF
              have hRr : wr.heap[w.heap.size]? = some (.cells (row8 (Sha.zeros 32)) 27 (0, 0)) := (hE.block hsR).trans HR.out
              have HF := Lib.hid hF
              have HR := Lib.hid hRr
              have HE := Lib.hid hE
              clear hF hRr hE
              go_wp2_with (first | (refine wpl_load27 rfl _ rfl wz.heap.size rfl (Sha.out sk) hO32 HF.out ?_) | (refine wpl_store27 rfl _ _ rfl w.heap.size (Sha.out sk) (Sha.zeros 32) rfl rfl hO32 (by simp [Sha.zeros]) HR.out ?_; intro w5 h5 hu5; have H5 := Lib.hid h5; have HU5 := Lib.hid hu5; clear h5 hu5))
              refine ret27 rfl w.heap.size (Sha.out sk) hO32 rfl H5.out rfl ⟨?_, (HE1.out.trans HE.out).upd_new HU5.out (Nat.le_refl _)⟩
              rw [← HS.out]
    · have e56 : (((l.length : Int) + 1 + (j : Int)) % 64 != 56) = true := by
        simp only [bne_iff_ne]
        unfold Sha.padZ at hj
        omega
      go_wp2_with (at_builtin; go_must (refine wpList_append_bs rfl _ _ rfl _ rfl (HN.out.grow ((Ext.refl wr).alloc _)).own _ rfl (Bs.lit_new _ _ [0] rfl (by decide)) (by simp [Sha.zeros]; omega) ?_; intro v4 w4 ho1 hg1 hf1; have HN4 := Lib.hid ((HN.out.grow ((Ext.refl wr).alloc _)).app ho1 hg1 hf1); clear ho1 hg1 hf1))
      go_roundg (gk - 1)
      case measure => omega
      case rel =>
        refine ⟨j + 1, by omega, ?_⟩
        have e : l ++ [0x80] ++ Sha.zeros (j + 1) = l ++ [0x80] ++ Sha.zeros j ++ [0] := by
          simp [Sha.zeros, List.replicate_succ', List.append_assoc]
        rw [e]
        exact HN4.out
end Go.Proofs.Ytapojpjmeadabaa
end

section
/- sacristanlaw02.known: the hash of three bytes. -/
namespace Go.Proofs.Ytapojpjmeadabaa
open Go.RowKit
set_option linter.unusedVariables false
set_option linter.unusedSimpArgs false
attribute [local go_sem] lt_ext cell?_ext frozen?_ext shape?_ext

/-- A slice of slices, written out. -/
theorem Rss.lit (w : World) (us : List Value) (ls : List (List UInt8)) (c : Array Value) (hc : c = us.toArray) (n : Nat) (hn : n = us.length) (hls : ls.length = us.length) (hm : us.length ≤ 4294967296)
    (h : ∀ i, i < ls.length → ∃ u, us[i]? = some u ∧ Bs w u (ls.getD i [])) : Rss (w.alloc (.cells c 23)) (.slice (some ⟨w.heap.size, 0, none⟩) n n) us ls := by
  subst hc
  subst hn
  have hrd : Rd (w.alloc (.cells us.toArray 23)) 1 (.slice (some ⟨w.heap.size, 0, none⟩) us.length us.length) us.length us := by
    refine Rd.lit (by simp) (Nat.le_refl _) (Nat.le_trans hm (by unfold maxLen; decide)) (by simp) fun j u hj => ?_
    rw [Nat.zero_add, cell_of_row _ _ _ _ _ _ (heap_alloc_last w _)]
    simpa using hj
  refine ⟨by rw [hls]; exact hrd, fun i hi => ?_⟩
  obtain ⟨u, h1, h2⟩ := h i hi
  exact ⟨u, h1, Rd.ext h2 ((Ext.refl w).alloc _)⟩
theorem Rss.one (w : World) (u : Value) (l : List UInt8) (h : Bs w u l) : Rss (w.alloc (.cells #[u] 23)) (.slice (some ⟨w.heap.size, 0, none⟩) 1 1) [u] [l] :=
  Rss.lit w [u] [l] _ rfl 1 rfl rfl (by simp) fun i hi => by
    obtain rfl : i = 0 := by simpa using hi
    exact ⟨u, rfl, h⟩
theorem Rss.two (w : World) (u u' : Value) (l l' : List UInt8) (h : Bs w u l) (h' : Bs w u' l') : Rss (w.alloc (.cells #[u, u'] 23)) (.slice (some ⟨w.heap.size, 0, none⟩) 2 2) [u, u'] [l, l'] :=
  Rss.lit w [u, u'] [l, l'] _ rfl 2 rfl rfl (by simp) fun i hi => by
    have hi' : i < 2 := by simpa using hi
    rcases (show i = 0 ∨ i = 1 by omega) with rfl | rfl
    · exact ⟨u, rfl, h⟩
    · exact ⟨u', rfl, h'⟩
theorem Bs.lit_marked (w : World) (c : Array Value) (fr : Nat × Nat) (l : List UInt8) (hc : c = (l.map B8).toArray) (hl : l.length ≤ 4294967296) : Bs (w.alloc (.cells c 5 fr)) (.slice (some ⟨w.heap.size, 0, none⟩) l.length l.length) l := by
  subst hc
  refine Rd.lit (by simp) (Nat.le_refl _) (Nat.le_trans hl (by unfold maxLen; decide)) (by simp) fun j u hj => ?_
  rw [Nat.zero_add, cell_of_row _ _ _ _ _ _ (heap_alloc_last w _)]
  simpa using hj
/-- An operation whose value and world are known. -/
theorem wpl_vw {P : Program} {ops : Array Oper} {rest : List Oper} {o : Oper} {a : Act} {w : World} {Q : Exit → Act → World → Prop} (hw : Region.wanted o (yielded ops a.tmps) = true) (v : Value) (w' : World)
    (hr : (execOp a.eval o).run P w = .ok (.value v) w') (h : wpList P ops Q rest (a.put o.dst v) w') : wpList P ops Q (o :: rest) a w :=
  wpList_step fun K hK => by
    rw [if_pos hw]
    unfold Oper.wp
    rw [hr]
    exact hK _ _ h
theorem exec_conv23 {o : Oper} {ρ : Operand → Value} (x : Operand) (ho : o.op = .convert 23 23 x) (w : World) (C : Array Value) (n c : Nat) (hx : ρ x = .slice (some ⟨w.heap.size, 0, none⟩) n c) :
    (execOp ρ o).run Try.prog (w.alloc (.cells C 5)) = .ok (.value (.slice (some ⟨w.heap.size, 0, none⟩) n c)) (w.alloc (.cells C 5 (C.size, C.size + 1))) := by
  unfold execOp
  simp only [ho, hx]
  rw [Sem.run_bind, Lib.run_convert_bytes_const w 23 5 C n c Try.underlying23 Try.underlying5]
  rfl
/-- []byte("..") of a constant: new bytes. -/
theorem wpl_conv23 {ops : Array Oper} {rest : List Oper} {o : Oper} {a : Act} {w : World} {Q : Exit → Act → World → Prop} (hw : Region.wanted o (yielded ops a.tmps) = true) (x : Operand) (ho : o.op = .convert 23 23 x)
    (l : List UInt8) (n : Nat) (hn : n = l.length) (C : Array Value) (hC : C = (l.map B8).toArray) (hl : l.length ≤ 4294967296) (hx : a.eval x = .slice (some ⟨w.heap.size, 0, none⟩) n n)
    (h : ∀ w' v, Bs w' v l → Ext w w' → wpList Try.prog ops Q rest (a.put o.dst v) w') : wpList Try.prog ops Q (o :: rest) a (w.alloc (.cells C 5)) :=
  wpl_vw hw _ _ (exec_conv23 x ho w C n n hx) (h _ _ (by subst hn; exact Bs.lit_marked w C _ l hC hl) ((Ext.refl w).alloc _))
theorem abc_cells (D : List UInt8) (hD : Hid (D = Sha.sum [97, 98, 99])) (w : World) (g : Nat) (h : w.heap[g]? = some (.cells (row8 D) 27 (0, 0))) :
    w.cell? ⟨g, 0, none⟩ = some (.int .u8 186) ∧ w.cell? ⟨g, 1, none⟩ = some (.int .u8 120) ∧ w.cell? ⟨g, 31, none⟩ = some (.int .u8 173) := by
  rw [hD.out, Sha.sum_abc] at h
  refine ⟨?_, ?_, ?_⟩ <;> (rw [cell_of_row _ _ _ _ _ _ h]; rfl)
theorem sum_abc_any (D : List UInt8) (hD : Hid (D = Sha.sum [97, 98, 99])) (lv : Value) (vs : List Value) (w : World) (hL : Rss w lv vs [[97, 98, 99]]) :
    Calls Try.prog 30 #[lv] w fun e w' => e = .returned (Dig D) ∧ Ext w w' := by
  have h := sum_any lv vs [[97, 98, 99]] w hL (by decide)
  rw [show ([[97, 98, 99]] : List (List UInt8)).flatten = [97, 98, 99] from rfl, ← hD.out] at h
  exact h
set_option maxRecDepth 100000 in
set_option maxHeartbeats 1000000 in
theorem known_of (D : List UInt8) (hD : Hid (D = Sha.sum [97, 98, 99])) (h32 : D.length = 32) (w : World) : Calls Try.prog 29 #[] w fun e w' => e = .returned (.bool true) ∧ Ext w w' := by
  go_enter Try.func29, Try.ntmps29
  go_wp2_with (first | (refine wpl_conv23 rfl _ rfl [97, 98, 99] 3 rfl _ rfl (by decide) rfl ?_; intro wa va hba hxa; obtain ⟨A, cap, rfl, _, _, _, _⟩ := hba.is; have HBA := Lib.hid hba; have HXA := Lib.hid hxa; clear hba hxa) | (go_at_call 30; go_must (refine (sum_abc_any D hD _ _ _ (Rss.one wa _ [97, 98, 99] HBA.out)).mono ?_; rintro e w1 ⟨rfl, hx1⟩; have HX1 := Lib.hid ((HXA.out.alloc _).trans hx1); clear hx1)) | (refine wpl_alloc_agg rfl 27 rfl _ zero27.1 ?_) | (refine wpl_store27 rfl _ _ rfl w1.heap.size D (Sha.zeros 32) rfl rfl h32 (by simp [Sha.zeros]) (heap_alloc_last w1 _) ?_; intro w2 h2 hu2; have HX2 := Lib.hid (HX1.out.trans (((Ext.refl w1).alloc _).upd_new hu2 (Nat.le_refl _))); obtain ⟨c0, c1, c31⟩ := abc_cells D hD w2 w1.heap.size h2; have hs2 : w1.heap.size < w2.heap.size := (Array.getElem?_eq_some_iff.1 h2).1; clear h2 hu2) | (go_at_call 34; go_must (refine (hsum_nil _).mono ?_; rintro e w3 ⟨rfl, hx3⟩; have HX3 := Lib.hid (HX2.out.trans hx3); clear hx3)) | (refine wpl_v (by rfl) _ (exec_eq27 _ _ _ rfl (Sha.zeros 32) (Sha.zeros 32) rfl rfl (by simp [Sha.zeros]) (by simp [Sha.zeros]) _) ?_))
  go_ret
  exact ⟨rfl, HX3.out⟩
theorem known_any (w : World) : Calls Try.prog 29 #[] w fun e w' => e = .returned (.bool true) ∧ Ext w w' := known_of (Sha.sum [97, 98, 99]) (Lib.hid rfl) (Sha.sum_length _) w
end Go.Proofs.Ytapojpjmeadabaa
end

/- The region theorem with the frame written out: slots that hold one value, and slots of which only a predicate is known. -/
import Derived.Test.YtapojpjmeadabaaMem
namespace Go.Proofs.Ytapojpjmeadabaa
open Go.RowKit
set_option linter.unusedVariables false
set_option linter.unusedSimpArgs false

abbrev Opq := List (Nat × (Value → World → Prop))
def Opq.at (M : Opq) (t : Nat) : Option (Value → World → Prop) := (M.find? (·.1 == t)).map (·.2)
def Opq.off (M : Opq) (dst : Option Tmp) : Opq := match dst with | some d => M.filter (·.1 != d) | none => M
def slotM (M : Opq) (t : Nat) (x : Value) : Sl := match M.at t with | some R => .p R | none => .v x
def envFrom (M : Opq) : Nat → List Value → List Sl
  | _, [] => []
  | k, x :: r => slotM M k x :: envFrom M (k + 1) r
def envM (a : Act) (M : Opq) : List Sl := envFrom M 0 a.tmps.toList
theorem envFrom_length (M : Opq) : ∀ (k : Nat) (l : List Value), (envFrom M k l).length = l.length
  | _, [] => rfl
  | k, x :: r => by simp [envFrom, envFrom_length M (k + 1) r]
theorem envFrom_get (M : Opq) : ∀ (k : Nat) (l : List Value) (t : Nat), (envFrom M k l)[t]? = (l[t]?).map (slotM M (k + t))
  | _, [], t => by simp [envFrom]
  | k, x :: r, 0 => by simp [envFrom]
  | k, x :: r, t + 1 => by simp only [envFrom, List.getElem?_cons_succ]; rw [envFrom_get M (k + 1) r t, show k + 1 + t = k + (t + 1) by omega]
theorem envM_nil (a : Act) : envM a [] = a.tmps.toList.map .v := by
  apply List.ext_getElem?
  intro t
  unfold envM
  rw [envFrom_get, List.getElem?_map]
  rfl
theorem Opq.at_off (M : Opq) (d t : Nat) : (M.off (some d)).at t = if t = d then none else M.at t := by
  simp only [Opq.off, Opq.at]
  induction M with
  | nil => simp
  | cons p M ih =>
    simp only [List.filter_cons, List.find?_cons]
    by_cases hp : p.1 = d
    · simp only [hp, bne_self_eq_false, Bool.false_eq_true, if_false]
      rw [ih]
      by_cases ht : t = d
      · simp [ht]
      · have h2 : (d == t) = false := by simpa using Ne.symm ht
        simp [ht, h2]
    · have : (p.1 != d) = true := by simpa using hp
      simp only [this, if_true, List.find?_cons]
      by_cases ht : p.1 = t
      · have htd : t ≠ d := fun e => hp (ht.trans e)
        simp [ht, htd]
      · have : (p.1 == t) = false := by simpa using ht
        simp only [this]
        exact ih
theorem slotM_off (M : Opq) (d t : Nat) (x : Value) : slotM (M.off (some d)) t x = if t = d then .v x else slotM M t x := by
  unfold slotM
  rw [Opq.at_off]
  by_cases h : t = d <;> simp [h]
theorem slotM_cons (M : Opq) (d t : Nat) (R : Value → World → Prop) (x : Value) : slotM ((d, R) :: M.off (some d)) t x = if d = t then .p R else slotM M t x := by
  by_cases hd : d = t
  · simp [slotM, Opq.at, hd]
  · have h := slotM_off M d t x
    rw [if_neg (fun e => hd e.symm)] at h
    have h2 : (d == t) = false := by simpa using hd
    rw [if_neg hd, ← h]
    simp only [slotM, Opq.at, List.find?_cons, h2]
theorem envM_put_v (a : Act) (M : Opq) (dst : Option Tmp) (v : Value) : envPut (envM a M) dst (.v v) = envM (a.put dst v) (M.off dst) := by
  cases dst with
  | none => rfl
  | some d =>
    apply List.ext_getElem?
    intro t
    have e1 : (envPut (envM a M) (some d) (.v v))[t]? = if d = t then (if d < a.tmps.toList.length then some (Sl.v v) else none) else (a.tmps.toList[t]?).map (slotM M t) := by
      simp only [envPut, envM, List.getElem?_set, envFrom_length, envFrom_get, Nat.zero_add]
    have e2 : (envM (a.put (some d) v) (M.off (some d)))[t]? = (if d = t then (if d < a.tmps.toList.length then some v else none) else a.tmps.toList[t]?).map (slotM (M.off (some d)) t) := by
      simp only [envM, envFrom_get, Nat.zero_add, Act.put, Array.toList_setIfInBounds, List.getElem?_set]
    rw [e1, e2]
    by_cases hd : d = t
    · subst hd
      rw [if_pos rfl, if_pos rfl]
      by_cases hl : d < a.tmps.toList.length
      · rw [if_pos hl, if_pos hl, Option.map_some, slotM_off, if_pos rfl]
      · rw [if_neg hl, if_neg hl, Option.map_none]
    · rw [if_neg hd, if_neg hd]
      cases a.tmps.toList[t]? with
      | none => rfl
      | some x => rw [Option.map_some, Option.map_some, slotM_off, if_neg (fun e => hd e.symm)]
theorem envM_put_p (a : Act) (M : Opq) (d : Tmp) (R : Value → World → Prop) : envPut (envM a M) (some d) (.p R) = envM (a.put (some d) undef) ((d, R) :: M.off (some d)) := by
  apply List.ext_getElem?
  intro t
  have e1 : (envPut (envM a M) (some d) (.p R))[t]? = if d = t then (if d < a.tmps.toList.length then some (Sl.p R) else none) else (a.tmps.toList[t]?).map (slotM M t) := by
    simp only [envPut, envM, List.getElem?_set, envFrom_length, envFrom_get, Nat.zero_add]
  have e2 : (envM (a.put (some d) undef) ((d, R) :: M.off (some d)))[t]? = (if d = t then (if d < a.tmps.toList.length then some undef else none) else a.tmps.toList[t]?).map (slotM ((d, R) :: M.off (some d)) t) := by
    simp only [envM, envFrom_get, Nat.zero_add, Act.put, Array.toList_setIfInBounds, List.getElem?_set]
  rw [e1, e2]
  by_cases hd : d = t
  · subst hd
    rw [if_pos rfl, if_pos rfl]
    by_cases hl : d < a.tmps.toList.length
    · rw [if_pos hl, if_pos hl, Option.map_some, slotM_cons, if_pos rfl]
    · rw [if_neg hl, if_neg hl, Option.map_none]
  · rw [if_neg hd, if_neg hd]
    cases a.tmps.toList[t]? with
    | none => rfl
    | some x => rw [Option.map_some, Option.map_some, slotM_cons, if_neg hd]

/-- The frame 'a' with the opaque slots filled. -/
theorem fillA_envM (xs : Nat → Value) (a : Act) (M : Opq) (t : Nat) : (fillA xs (envM a M) a.defers).tmps[t]? = (a.tmps[t]?).map fun x => match M.at t with | some _ => xs t | none => x := by
  simp only [fillA, List.getElem?_toArray, fillFrom_get, envM, envFrom_get, Nat.zero_add, Option.map_map, Array.getElem?_toList]
  congr 1
  funext x
  simp only [Function.comp, slotM]
  cases M.at t <;> rfl
def noLook (ops : Array Oper) (o : Oper) (M : Opq) : Bool := (o.looksAt ops).all fun t => !(M.any (·.1 == t))
theorem noLook_at {ops : Array Oper} {o : Oper} {M : Opq} (h : noLook ops o M = true) {t : Tmp} (ht : t ∈ o.looksAt ops) : M.at t = none := by
  have := List.all_eq_true.1 h t ht
  simp only [Bool.not_eq_true'] at this
  unfold Opq.at
  have h2 : M.find? (·.1 == t) = none := by
    rw [List.find?_eq_none]
    intro p hp
    have := List.any_eq_false.1 this p hp
    simpa using this
  rw [h2]
  rfl
theorem looks_operand {ops : Array Oper} {o : Oper} {t : Tmp} (h : Operand.tmp t ∈ o.op.operands) : t ∈ o.looksAt ops :=
  List.mem_append_left _ (List.mem_filterMap.2 ⟨.tmp t, by simpa using h, rfl⟩)
theorem eval_same {ops : Array Oper} {o : Oper} {M : Opq} (a : Act) (xs : Nat → Value) (h : noLook ops o M = true) : ∀ x ∈ o.op.operands, (fillA xs (envM a M) a.defers).eval x = a.eval x := by
  intro x hx
  cases x with
  | tmp t =>
    have hat := noLook_at h (looks_operand hx)
    have hD : ∀ b : Array Value, b.getD t undef = (b[t]?).getD undef := fun b => by simp
    have e := fillA_envM xs a M t
    rw [hat] at e
    show (fillA xs (envM a M) a.defers).tmps.getD t undef = a.tmps.getD t undef
    rw [hD, hD, e]
    cases a.tmps[t]? <;> rfl
  | _ => rfl
theorem wanted_same {ops : Array Oper} {o : Oper} {M : Opq} (a : Act) (xs : Nat → Value) (h : noLook ops o M = true) :
    Region.wanted o (yielded ops (fillA xs (envM a M) a.defers).tmps) = Region.wanted o (yielded ops a.tmps) := by
  unfold Region.wanted
  cases hg : o.guard with
  | none => rfl
  | some gw =>
    obtain ⟨g, want⟩ := gw
    have hy : yielded ops (fillA xs (envM a M) a.defers).tmps g = yielded ops a.tmps g := by
      unfold yielded
      cases ht : (ops[g]?).bind (·.dst) with
      | none => rfl
      | some t =>
        have hl : t ∈ o.looksAt ops := by simp [Oper.looksAt, hg, ht]
        have e := fillA_envM xs a M t
        rw [noLook_at h hl] at e
        have e2 : (fillA xs (envM a M) a.defers).tmps[t]? = a.tmps[t]? := by rw [e]; cases a.tmps[t]? <;> rfl
        simp only [Option.bind_some, e2]
    simp only [hy]

/-- Operations that never enter a function. -/
def plainB (o : Oper) : Bool := match o.op with
  | .move _ | .assign _ | .pick .. | .alloc _ | .box .. | .build .. | .buildSlice .. | .load .. | .store .. | .nilCheck _ | .binOp .. | .unOp .. | .convert .. | .sliceToArrayPointer .. | .slice .. | .fieldAddr .. | .field .. | .indexAddr .. | .index .. | .lookup .. | .extract .. => true
  | .call { callee := .builtin .len, .. } | .call { callee := .builtin .append, .. } | .call { callee := .builtin .copy, .. } => true
  | _ => false
theorem bind_noEnter {α : Type} (P : Program) (w : World) (s : Sem α) (k : α → Sem Next) (hk : ∀ v w f args w', (k v).run P w ≠ .ok (.enter f args) w') (f : FuncId) (args : Array Value) (w' : World) : (s >>= k).run P w ≠ .ok (.enter f args) w' := by
  rw [Sem.run_bind]
  cases s.run P w with
  | ok v w1 => exact hk v w1 f args w'
  | halt h w1 => intro e; cases e
theorem value_noEnter (P : Program) (w : World) (v : Value) (f : FuncId) (args : Array Value) (w' : World) : (pure (Next.value v) : Sem Next).run P w ≠ .ok (.enter f args) w' := by
  intro e; cases e
theorem skip_noEnter (P : Program) (w : World) (f : FuncId) (args : Array Value) (w' : World) : (pure Next.skip : Sem Next).run P w ≠ .ok (.enter f args) w' := by
  intro e; cases e
theorem plain_noEnter (P : Program) (ρ : Operand → Value) (o : Oper) (h : plainB o = true) (w : World) (f : FuncId) (args : Array Value) (w' : World) : (execOp ρ o).run P w ≠ .ok (.enter f args) w' := by
  obtain ⟨dst, op, type, pos, after, guard⟩ := o
  unfold plainB at h
  cases op <;> simp only [Bool.false_eq_true] at h <;> simp only [execOp]
  case move x => exact value_noEnter _ _ _ _ _ _
  case assign x => exact value_noEnter _ _ _ _ _ _
  case store t a x => exact bind_noEnter _ _ _ _ (fun _ _ _ _ _ => skip_noEnter _ _ _ _ _) _ _ _
  case nilCheck x =>
    split
    · intro e; cases e
    · intro e; cases e
    · intro e; cases e
    · split
      · intro e; cases e
      · refine bind_noEnter _ _ _ _ (fun _ _ _ _ _ => ?_) _ _ _
        refine bind_noEnter _ _ _ _ (fun _ _ _ _ _ => ?_) _ _ _
        split
        · refine bind_noEnter _ _ _ _ (fun _ _ _ _ _ => ?_) _ _ _
          exact value_noEnter _ _ _ _ _ _
        · exact value_noEnter _ _ _ _ _ _
      · exact value_noEnter _ _ _ _ _ _
    · exact value_noEnter _ _ _ _ _ _
  case call c =>
    obtain ⟨callee, xs, ts⟩ := c
    cases callee with
    | value x => simp at h
    | invoke x m => simp at h
    | builtin b =>
      cases b <;> simp only [Bool.false_eq_true] at h
      all_goals exact bind_noEnter _ _ _ _ (fun _ _ _ _ _ => value_noEnter _ _ _ _ _ _) _ _ _
  all_goals exact bind_noEnter _ _ _ _ (fun _ _ _ _ _ => value_noEnter _ _ _ _ _ _) _ _ _

section
variable {P : Program} {ops : Array Oper} {w0 : World} {QG : List Sl → Prop} {rest : List Oper} {o : Oper} {a : Act} {M : Opq} {ds : List Deferred}
abbrev gCls (w0 : World) : Cls := Cls.grown w0
theorem gYields_same (hsel : ∀ cs b, o.op ≠ .select cs b) (hl : noLook ops o M = true) {s : Sl} (hs : s.stable (gCls w0)) (h : ∀ w, Ext w0 w → gStep P (gCls w0) ops o a w s) :
    gYields P ops (gCls w0) a.defers o s (envM a M) :=
  ⟨hs, fun xs w hC _ => by
    unfold gStep
    rw [wanted_same a xs hl, execOp_congr o hsel (eval_same a xs hl)]
    exact h w hC⟩
theorem put_defers (a : Act) (d : Option Tmp) (v : Value) : (a.put d v).defers = a.defers := by cases d <;> rfl

/-- An operation that is no call, and looks at written-out slots alone: by the quiet walk's own step. -/
theorem gm_q (hd : a.defers = ds) (hw : Region.wanted o (yielded ops a.tmps) = true) (hl : noLook ops o M = true) (hp : plainB o = true)
    (h : ∀ K : Act → Prop, (∀ a', wpG P ops (gCls w0) ds QG rest (envM a' (M.off o.dst)) → K a') → o.quiet P a (fun w' => ∃ x : Grow w0, w' = w0.ext x) K) : wpG P ops (gCls w0) ds QG (o :: rest) (envM a M) := by
  subst hd
  obtain ⟨v, h1, h2⟩ := h (fun a' => wpG P ops (gCls w0) a.defers QG rest (envM a' (M.off o.dst))) (fun _ h => h)
  refine ⟨.v v, gYields_same (fun cs b h => by simp [plainB, h] at hp) hl (Sl.stable_v _ v) (fun w hC => ?_), by rw [envM_put_v]; exact h2⟩
  unfold gStep
  rw [if_pos hw]
  have h3 := h1 w (mk_ext hC)
  have h4 := plain_noEnter P a.eval o hp w
  unfold Oper.quietAt at h3
  generalize (execOp a.eval o).run P w = r at *
  cases r with
  | ok n w' =>
    cases n <;> simp only [Oper.quietUpon] at h3 <;> simp only [gUpon]
    case value u => obtain ⟨rfl, rfl⟩ := h3; exact ⟨rfl, Ext.refl _, hC⟩
    case skip => obtain ⟨rfl, rfl⟩ := h3; exact ⟨rfl, Ext.refl _, hC⟩
    case enter f args => exact absurd rfl (h4 f args w')
  | halt x w' => simp only [Oper.quietUpon] at h3
def notSelB (o : Oper) : Bool := match o.op with | .select .. => false | _ => true
theorem notSel {o : Oper} (h : notSelB o = true) : ∀ cs b, o.op ≠ .select cs b := fun cs b e => by simp [notSelB, e] at h
/-- An operation whose guard says no. -/
theorem gm_skip (hd : a.defers = ds) (hw : Region.wanted o (yielded ops a.tmps) = false) (hsel : notSelB o = true) (hl : noLook ops o M = true)
    (h : wpG P ops (gCls w0) ds QG rest (envM (a.put o.dst undef) (M.off o.dst))) : wpG P ops (gCls w0) ds QG (o :: rest) (envM a M) := by
  subst hd
  exact ⟨.v undef, gYields_same (notSel hsel) hl (Sl.stable_v _ _) (fun w hC => by unfold gStep; rw [if_neg (by rw [hw]; exact Bool.false_ne_true)]; rfl), by rw [envM_put_v]; exact h⟩

/-- A call, looking at written-out slots alone, that comes to one value. -/
theorem gm_c (hd : a.defers = ds) (hw : Region.wanted o (yielded ops a.tmps) = true) (hsel : notSelB o = true) (hl : noLook ops o M = true) (f : FuncId) (args : Array Value)
    (hr : ∀ w, (execOp a.eval o).run P w = .ok (.enter f args) w) (v : Value)
    (hc : ∀ x : Grow w0, Calls P f args (w0.ext x) fun e w'' => e = .returned v ∧ Ext (w0.ext x) w'')
    (h : wpG P ops (gCls w0) ds QG rest (envM (a.put o.dst v) (M.off o.dst))) : wpG P ops (gCls w0) ds QG (o :: rest) (envM a M) := by
  subst hd
  exact ⟨.v v, gYields_same (notSel hsel) hl (Sl.stable_v _ _) (fun w hC => by
    unfold gStep
    rw [if_pos hw, hr w]
    obtain ⟨x, rfl⟩ := mk_ext hC
    exact ⟨Ext.refl _, (hc x).mono fun e w'' ⟨he, hx⟩ => ⟨v, he, rfl, hx, hC.trans hx⟩⟩), by rw [envM_put_v]; exact h⟩

/-- A call whose value is known by a predicate. -/
theorem gm_cp (hds : a.defers = ds) (hw : Region.wanted o (yielded ops a.tmps) = true) (hsel : notSelB o = true) (hl : noLook ops o M = true) (f : FuncId) (args : Array Value)
    (hr : ∀ w, (execOp a.eval o).run P w = .ok (.enter f args) w) (d : Tmp) (hd : o.dst = some d) (R : Value → World → Prop) (hR : ∀ u w w', Ext w w' → R u w → R u w')
    (hc : ∀ x : Grow w0, Calls P f args (w0.ext x) fun e w'' => ∃ u, e = .returned u ∧ R u w'' ∧ Ext (w0.ext x) w'')
    (h : wpG P ops (gCls w0) ds QG rest (envM (a.put (some d) undef) ((d, R) :: M.off (some d)))) : wpG P ops (gCls w0) ds QG (o :: rest) (envM a M) := by
  subst hds
  exact ⟨.p R, gYields_same (notSel hsel) hl hR (fun w hC => by
    unfold gStep
    rw [if_pos hw, hr w]
    obtain ⟨x, rfl⟩ := mk_ext hC
    exact ⟨Ext.refl _, (hc x).mono fun e w'' ⟨u, he, hu, hx⟩ => ⟨u, he, hu, hx, hC.trans hx⟩⟩), by rw [hd, envM_put_p]; exact h⟩

def fillM (a : Act) (xs : Nat → Value) : Opq → Act
  | [] => a
  | (t, _) :: M => (fillM a xs M).put (some t) (xs t)
theorem fillM_get (a : Act) (xs : Nat → Value) : ∀ (M : Opq) (t : Nat), (fillM a xs M).tmps[t]? = (a.tmps[t]?).map fun x => match M.at t with | some _ => xs t | none => x
  | [], t => by simp [fillM, Opq.at]
  | (d, R) :: M, t => by
    simp only [fillM, Act.put, Array.getElem?_setIfInBounds]
    have hs : (fillM a xs M).tmps.size = a.tmps.size := by
      induction M with
      | nil => rfl
      | cons p M ih => simp [fillM, Act.put, ih]
    rw [fillM_get a xs M t, hs]
    by_cases hd : d = t
    · subst hd
      have : Opq.at ((d, R) :: M) d = some R := by simp [Opq.at]
      rw [if_pos rfl, this]
      by_cases hl : d < a.tmps.size <;> simp [hl]
    · have : Opq.at ((d, R) :: M) t = Opq.at M t := by
        have h2 : (d == t) = false := by simpa using hd
        simp only [Opq.at, List.find?_cons, h2]
      rw [if_neg hd, this]
theorem fillM_defers (a : Act) (xs : Nat → Value) : ∀ M : Opq, (fillM a xs M).defers = a.defers
  | [] => rfl
  | (d, R) :: M => fillM_defers a xs M
theorem fillA_fillM (a : Act) (xs : Nat → Value) (M : Opq) : fillA xs (envM a M) a.defers = fillM a xs M := by
  have h1 : (fillA xs (envM a M) a.defers).tmps = (fillM a xs M).tmps := by
    apply Array.ext_getElem?
    intro t
    rw [fillA_envM, fillM_get]
  have h2 : (fillA xs (envM a M) a.defers).defers = (fillM a xs M).defers := by rw [fillM_defers]; rfl
  cases h3 : fillA xs (envM a M) a.defers
  cases h4 : fillM a xs M
  rw [h3, h4] at h1 h2
  simp only at h1 h2
  rw [h1, h2]

/-- Any operation, its slots' predicates at hand. -/
theorem gm_op (hds : a.defers = ds) (s : Sl) (hs : s.stable (gCls w0))
    (hst : ∀ (xs : Nat → Value) (x : Grow w0), (∀ t ∈ o.looksAt ops, t < a.tmps.size → ∀ R, M.at t = some R → R (xs t) (w0.ext x)) → gStep P (gCls w0) ops o (fillM a xs M) (w0.ext x) s)
    (h : wpG P ops (gCls w0) ds QG rest (envPut (envM a M) o.dst s)) : wpG P ops (gCls w0) ds QG (o :: rest) (envM a M) := by
  subst hds
  exact ⟨s, ⟨hs, fun xs w hC hk => by
    obtain ⟨x, rfl⟩ := mk_ext hC
    rw [fillA_fillM]
    refine hst xs x fun t ht hl R hR => ?_
    refine hk t ht R ?_
    unfold envM
    rw [envFrom_get]
    simp [hl, slotM, hR]⟩, h⟩
/-- A slot handed on of which a predicate is known. -/
theorem gm_mv (hds : a.defers = ds) (t : Tmp) (ho : o.op = .move (.tmp t) ∨ o.op = .assign (.tmp t)) (hg : o.guard = none) (d : Tmp) (hd : o.dst = some d) (R : Value → World → Prop) (hR : ∀ u w w', Ext w w' → R u w → R u w') (hM : Opq.at M t = some R) (hlt : t < a.tmps.size)
    (h : wpG P ops (gCls w0) ds QG rest (envM (a.put (some d) undef) ((d, R) :: M.off (some d)))) : wpG P ops (gCls w0) ds QG (o :: rest) (envM a M) := by
  refine gm_op hds (.p R) hR (fun xs x hk => ?_) (by rw [hd, envM_put_p]; exact h)
  have hl : t ∈ o.looksAt ops := looks_operand (by rcases ho with h | h <;> simp [h, Op.operands])
  have hv := hk t hl hlt R hM
  have he : (fillM a xs M).eval (.tmp t) = xs t := by
    have e := fillM_get a xs M t
    rw [hM] at e
    have hD : ∀ b : Array Value, b.getD t undef = (b[t]?).getD undef := fun b => by simp
    show (fillM a xs M).tmps.getD t undef = _
    rw [hD, e, Array.getElem?_eq_getElem hlt]
    rfl
  unfold gStep
  rw [if_pos (by simp [Region.wanted, hg])]
  have hr : (execOp (fillM a xs M).eval o).run P (w0.ext x) = .ok (.value (xs t)) (w0.ext x) := by
    unfold execOp
    rcases ho with h | h <;> simp only [h, he] <;> rfl
  rw [hr]
  exact ⟨hv, Ext.refl _, ext_ext _ _⟩
/-- The end: whatever the slots came to. -/
theorem gm_end {K : Act → World → Prop} (hds : a.defers = ds) (h : ∀ (xs : Nat → Value) (x : Grow w0), (∀ (t : Nat), t < a.tmps.size → ∀ R, Opq.at M t = some R → R (xs t) (w0.ext x)) → K (fillM a xs M) (w0.ext x)) :
    wpG P ops (gCls w0) ds (gPost (gCls w0) ds K) [] (envM a M) := by
  subst hds
  intro xs w hC hk
  obtain ⟨x, rfl⟩ := mk_ext hC
  rw [fillA_fillM]
  refine h xs x fun t hl R hR => hk t R ?_
  unfold envM
  rw [envFrom_get]
  simp [hl, slotM, hR]
theorem gm_end_at {K : Act → World → Prop} (hds : a.defers = ds) (M' : Opq) (hM : M = M') (h : ∀ (xs : Nat → Value) (x : Grow w0), (∀ (t : Nat), t < a.tmps.size → ∀ R, Opq.at M' t = some R → R (xs t) (w0.ext x)) → K (fillM a xs M') (w0.ext x)) :
    wpG P ops (gCls w0) ds (gPost (gCls w0) ds K) [] (envM a M) := by
  subst hM
  exact gm_end hds h
end
/-- **A WHOLE REGION**, its frame written out. -/
theorem wp_region_m {P : Program} {id : Nat} {Q : Exit → Act → World → Prop} {a : Act} {w : World} {l : List Oper} (hm : P.follows .mixedOrders = true) (hB : Region.lexB .any l.toArray = true)
    (h : wpG P l.toArray (gCls w) a.defers (gPost (gCls w) a.defers (fun a' w' => Q .normal a' w')) l (envM a [])) : (Code.region id l.toArray true).wp P Q a w :=
  wp_region_gx hm hB (by rw [envM_nil] at h; exact h)
theorem wp_region_mt {P : Program} {id : Nat} {Q : Exit → Act → World → Prop} {a : Act} {w : World} {l : List Oper} (n : Nat) (hm : P.follows .mixedOrders = true) (hB : Region.lexTailB .any l.toArray n = true)
    (h : wpG P l.toArray (gCls w) a.defers (gPost (gCls w) a.defers (fun a' w' => wpList P l.toArray Q (l.drop n) a' w')) (l.take n) (envM a [])) : (Code.region id l.toArray true).wp P Q a w :=
  wp_region_gxt n hm hB (by rw [envM_nil] at h; exact h)
end Go.Proofs.Ytapojpjmeadabaa

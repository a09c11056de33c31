/- The region theorem once more, for regions that make several blocks in an order that is drawn: of certain slots it is kept that they hold pointers to new memory, each to memory of its own. -/
import Derived.Test.YtapojpjmeadabaaRegy
namespace Go.Proofs.Ytapojpjmeadabaa.FF
open Go.RowKit
set_option linter.unusedVariables false
set_option linter.unusedSimpArgs false
/-- A class of worlds, and a relation between worlds that an operation may lead along. -/
structure Cls where
  C : World → Prop
  E : World → World → Prop
  refl : ∀ w, E w w
  trans : ∀ a b c, E a b → E b c → E a c
  /-- the slots whose values are pointers to new memory -/
  F : List Nat := []
  mono : ∀ t ∈ F, ∀ a b, E a b → a.heap.size ≤ b.heap.size := by simp
/-- The worlds that have only grown out of w0. -/
def Cls.grown (w0 : World) : Cls := { C := Ext w0, E := Ext, refl := Ext.refl, trans := fun _ _ _ => Ext.trans }
/-- .. and of whose slots F hold pointers to new memory, each to memory of its own. -/
def Cls.grownF (w0 : World) (F : List Nat) : Cls := { C := Ext w0, E := Ext, refl := Ext.refl, trans := fun _ _ _ => Ext.trans, F := F, mono := fun _ _ _ _ h => h.size }
def newAt (c : Cls) (dst : Option Tmp) (u : Value) (w w' : World) : Prop := ∀ d, dst = some d → d ∈ c.F → ∃ g, u = .pointer (some ⟨g, 0, none⟩) ∧ w.heap.size ≤ g ∧ g < w'.heap.size
theorem newAt_nil {c : Cls} (h : c.F = []) {dst : Option Tmp} {u : Value} {w w' : World} : newAt c dst u w w' := fun d _ hd => by rw [h] at hd; cases hd
/-- The worlds of a class; nothing is kept from world to world. -/
def Cls.quiet (C : World → Prop) : Cls := { C := C, E := fun _ _ => True, refl := fun _ => trivial, trans := fun _ _ _ _ _ => trivial }
def SlS (c : Cls) (s : Sl) : Prop := ∀ u w w', c.E w w' → s.holds u w → s.holds u w'
theorem SlS_v (c : Cls) (x : Value) : SlS c (.v x) := fun _ _ _ _ h => h

/-- What one operation has to do, carried out in the frame 'a' and the world 'w'. -/
def gUpon (P : Program) (c : Cls) (dst : Option Tmp) (w : World) (s : Sl) : Result Next → Prop
  | .ok (.value u) w' => s.holds u w' ∧ c.E w w' ∧ c.C w' ∧ newAt c dst u w w'
  | .ok .skip w' => s.holds undef w' ∧ c.E w w' ∧ c.C w' ∧ newAt c dst undef w w'
  | .ok (.enter f args) w' => c.E w w' ∧ Calls P f args w' (fun e w'' => ∃ u, e = .returned u ∧ s.holds u w'' ∧ c.E w' w'' ∧ c.C w'' ∧ newAt c dst u w' w'')
  | _ => False
def gStep (P : Program) (c : Cls) (ops : Array Oper) (o : Oper) (a : Act) (w : World) (s : Sl) : Prop :=
  if Region.wanted o (yielded ops a.tmps) then gUpon P c o.dst w s ((execOp a.eval o).run P w) else s.holds undef w ∧ newAt c o.dst undef w w

section
variable {P : Program} {ops : Array Oper} {md : Region.Mode} {c : Cls} {ds : List Deferred}

def gYields (P : Program) (ops : Array Oper) (c : Cls) (ds : List Deferred) (o : Oper) (s : Sl) (env : List Sl) : Prop :=
  SlS c s ∧ ∀ xs w, c.C w → Known ops o env xs w → gStep P c ops o (fillA xs env ds) w s
def gOper (P : Program) (ops : Array Oper) (c : Cls) (ds : List Deferred) (o : Oper) (env : List Sl) (K : List Sl → Prop) : Prop :=
  ∃ s, gYields P ops c ds o s env ∧ K (envPut env o.dst s)
def wpG (P : Program) (ops : Array Oper) (c : Cls) (ds : List Deferred) (Q : List Sl → Prop) : List Oper → List Sl → Prop
  | [], env => Q env
  | o :: rest, env => gOper P ops c ds o env (wpG P ops c ds Q rest)
def gOp (P : Program) (ops : Array Oper) (c : Cls) (ds : List Deferred) (i : Nat) (K : List Sl → Prop) (env : List Sl) : Prop :=
  match ops[i]? with
  | none => K env
  | some o => gOper P ops c ds o env K
def wpAnyG (P : Program) (md : Region.Mode) (ops : Array Oper) (c : Cls) (ds : List Deferred) (L : Array Bool → List Sl → Prop) (n : Nat) : Nat → Array Bool → List Sl → Prop
  | 0, listed, env => L listed env
  | fuel + 1, listed, env =>
    Region.ready md ops listed ≠ [] ∧ ∀ i ∈ Region.ready md ops listed, i < n ∧ gOp P ops c ds i (wpAnyG P md ops c ds L n fuel (listed.setIfInBounds i true)) env

theorem gOp_mono {i : Nat} {env : List Sl} {K K' : List Sl → Prop} (h : ∀ e, K e → K' e) (hh : gOp P ops c ds i K env) : gOp P ops c ds i K' env := by
  unfold gOp at *
  split
  · rename_i ho; simp only [ho] at hh; exact h _ hh
  · rename_i o ho; simp only [ho] at hh; obtain ⟨s, h1, h2⟩ := hh; exact ⟨s, h1, h _ h2⟩

/-- The frame 'a' is one of those that 'env' tells. -/
structure Fits (c : Cls) (ds : List Deferred) (env : List Sl) (a : Act) (w : World) : Prop where
  ext : c.C w
  stable : ∀ s ∈ env, SlS c s
  ds : a.defers = ds
  size : a.tmps.size = env.length
  has : ∀ (t : Nat) (s : Sl), env[t]? = some s → Sl.holds s (a.tmps.getD t undef) w
  fr : ∀ t ∈ c.F, ∀ R, env[t]? = some (.p R) → ∃ g, a.tmps.getD t undef = .pointer (some ⟨g, 0, none⟩) ∧ g < w.heap.size
  ap : ∀ t ∈ c.F, ∀ t' ∈ c.F, t ≠ t' → ∀ R R', env[t]? = some (.p R) → env[t']? = some (.p R') → a.tmps.getD t undef ≠ a.tmps.getD t' undef

theorem Fits.fill {env : List Sl} {a : Act} {w : World} (h : Fits c ds env a w) : a = fillA (fun t => a.tmps.getD t undef) env ds := by
  obtain ⟨tmps, defers⟩ := a
  have hd := h.ds
  simp only at hd
  subst hd
  simp only [fillA, Act.mk.injEq, and_true]
  apply Array.ext_getElem?
  intro t
  have hs := h.size
  simp only at hs
  rw [show (fillFrom (fun t => tmps.getD t undef) 0 env).toArray[t]? = (fillFrom (fun t => tmps.getD t undef) 0 env)[t]? from List.getElem?_toArray, fillFrom_get]
  by_cases ht : t < env.length
  · have hh := h.has t env[t] (by simp [ht])
    simp only [ht, List.getElem?_eq_getElem, Option.map_some, Nat.zero_add]
    have e1 : tmps[t]? = some (tmps.getD t undef) := by simp [hs, ht]
    rw [e1]
    congr 1
    cases hE : env[t] with
    | v x => rw [hE] at hh; simpa [Sl.at, Sl.holds] using hh
    | p R => simp [Sl.at]
  · simp [hs, ht]

theorem Fits.known {env : List Sl} {a : Act} {w : World} (h : Fits c ds env a w) (o : Oper) : Known ops o env (fun t => a.tmps.getD t undef) w :=
  fun t _ _ hR => h.has t _ hR

theorem Fits.put {env : List Sl} {a : Act} {w w' : World} (h : Fits c ds env a w) (hx : c.E w w') (hC : c.C w') {s : Sl} (hs : SlS c s) (dst : Option Tmp) {u : Value} (hu : s.holds u w') (hn : newAt c dst u w w') :
    Fits c ds (envPut env dst s) (a.put dst u) w' := by
  cases dst with
  | none => exact ⟨hC, h.stable, h.ds, h.size, fun t s' hs' => h.stable s' (List.mem_of_getElem? hs') _ _ _ hx (h.has t s' hs'), fun t ht R hR => (let ⟨g, h1, h2⟩ := h.fr t ht R hR; ⟨g, h1, Nat.lt_of_lt_of_le h2 (c.mono t ht _ _ hx)⟩), h.ap⟩
  | some d =>
    have hge : ∀ t, t ≠ d → (a.put (some d) u).tmps.getD t undef = a.tmps.getD t undef := fun t ht => by
      have hD : ∀ b : Array Value, b.getD t undef = (b[t]?).getD undef := fun b => by simp
      rw [hD, hD]
      simp [Act.put, Array.getElem?_setIfInBounds, Ne.symm ht]
    have hgd : ∀ s', (envPut env (some d) s)[d]? = some s' → (a.put (some d) u).tmps.getD d undef = u := fun s' hs' => by
      have hl : d < env.length := by
        have := (List.getElem?_eq_some_iff.1 hs').1
        simpa [envPut] using this
      simp [Act.put, h.size, hl]
    have hen : ∀ t, t ≠ d → (envPut env (some d) s)[t]? = env[t]? := fun t ht => by
      simp only [envPut, List.getElem?_set]
      rw [if_neg (Ne.symm ht)]
    refine ⟨hC, fun s' hs' => ?_, h.ds, by simp [envPut, Act.put, h.size], fun t s' hs' => ?_, fun t ht R hR => ?_, fun t ht t' ht' hne R R' hR hR' => ?_⟩
    · rcases List.mem_or_eq_of_mem_set hs' with h1 | h1
      · exact h.stable _ h1
      · exact h1 ▸ hs
    · simp only [envPut, List.getElem?_set] at hs'
      by_cases hd : d = t
      · subst hd
        by_cases hl : d < env.length
        · simp only [if_true, hl, Option.some.injEq] at hs'
          subst hs'
          simpa [Act.put, h.size, hl] using hu
        · simp [hl] at hs'
      · rw [if_neg hd] at hs'
        have := h.stable s' (List.mem_of_getElem? hs') _ _ _ hx (h.has t s' hs')
        simpa [Act.put, hd] using this
    · by_cases hd : t = d
      · subst hd
        obtain ⟨g, h1, _, h3⟩ := hn t rfl ht
        exact ⟨g, by rw [hgd _ hR, h1], h3⟩
      · rw [hen t hd] at hR
        obtain ⟨g, h1, h2⟩ := h.fr t ht R hR
        exact ⟨g, by rw [hge t hd, h1], Nat.lt_of_lt_of_le h2 (c.mono t ht _ _ hx)⟩
    · have key : ∀ t1, t1 ∈ c.F → t1 ≠ d → ∀ R1, env[t1]? = some (.p R1) → d ∈ c.F → u ≠ a.tmps.getD t1 undef := by
        intro t1 h1 h2 R1 h3 h4 e
        obtain ⟨g, g1, g2, _⟩ := hn d rfl h4
        obtain ⟨g', g3, g4⟩ := h.fr t1 h1 R1 h3
        rw [g1, g3] at e
        injection e with e
        injection e with e
        injection e with e
        omega
      by_cases hd : t = d
      · subst hd
        have hd' : t' ≠ t := fun e => hne e.symm
        rw [hgd _ hR, hge t' hd']
        rw [hen t' hd'] at hR'
        exact key t' ht' hd' R' hR' ht
      · by_cases hd' : t' = d
        · subst hd'
          rw [hgd _ hR', hge t hd]
          rw [hen t hd] at hR
          exact fun e => key t ht hd R hR ht' e.symm
        · rw [hge t hd, hge t' hd']
          rw [hen t hd] at hR
          rw [hen t' hd'] at hR'
          exact h.ap t ht t' ht' hne R R' hR hR'

/-- One operation, for real. -/
theorem wpOp_of_gOp {i : Nat} {env : List Sl} {a : Act} {w : World} {K : List Sl → Prop} {K' : Act → World → Prop} {Q' : Exit → Act → World → Prop} (hf : Fits c ds env a w)
    (h : ∀ env' a' w', Fits c ds env' a' w' → K env' → K' a' w') (hh : gOp P ops c ds i K env) : wpOp P ops Q' i K' a w := by
  unfold gOp at hh
  unfold wpOp
  split
  · rename_i ho; simp only [ho] at hh; exact h _ _ _ hf hh
  · rename_i o ho
    simp only [ho] at hh
    obtain ⟨s, ⟨hst, hy⟩, hK⟩ := hh
    have h1 := hy _ w hf.ext (hf.known o)
    rw [← hf.fill] at h1
    unfold gStep at h1
    split
    · rename_i hw
      rw [if_pos hw] at h1
      left
      unfold Oper.wp
      generalize (execOp a.eval o).run P w = r at *
      cases r with
      | ok n w' =>
        cases n <;> simp only [gUpon] at h1 <;> simp only [Oper.upon]
        case value u => exact h _ _ _ (hf.put h1.2.1 h1.2.2.1 hst o.dst h1.1 h1.2.2.2) hK
        case skip => exact h _ _ _ (hf.put h1.2.1 h1.2.2.1 hst o.dst h1.1 h1.2.2.2) hK
        case enter f args =>
          obtain ⟨hx, hc⟩ := h1
          refine hc.mono fun e w'' ⟨u, he, hu, hx', hC', hn'⟩ => ?_
          subst he
          exact h _ _ _ (hf.put (c.trans _ _ _ hx hx') hC' hst o.dst hu (fun d hd hF => let ⟨g, g1, g2, g3⟩ := hn' d hd hF; ⟨g, g1, Nat.le_trans (c.mono d hF _ _ hx) g2, g3⟩)) hK
      | halt x w' => simp only [gUpon] at h1
    · rename_i hw
      rw [if_neg hw] at h1
      exact h _ _ _ (hf.put (c.refl w) hf.ext hst o.dst h1.1 h1.2) hK

theorem gYields_put {o : Oper} (hsel : ∀ cs b, o.op ≠ .select cs b) {s s' : Sl} {env : List Sl} {dst : Option Tmp} (hd : ∀ d, dst = some d → d ∉ o.looksAt ops) :
    gYields P ops c ds o s (envPut env dst s') ↔ gYields P ops c ds o s env := by
  unfold gYields
  refine and_congr Iff.rfl ?_
  have hstep : ∀ xs w, gStep P c ops o (fillA xs (envPut env dst s') ds) w s ↔ gStep P c ops o (fillA xs env ds) w s := by
    intro xs w
    rw [fillA_put]
    unfold gStep
    rw [wanted_put o _ dst _ hd, execOp_put o hsel _ dst _ hd]
  constructor
  · intro h xs w hx hk
    exact (hstep xs w).1 (h xs w hx ((Known.put hd).2 hk))
  · intro h xs w hx hk
    exact (hstep xs w).2 (h xs w hx ((Known.put hd).1 hk))

theorem gOp_put {j : Nat} {oi oj : Oper} {s : Sl} (hj : ops[j]? = some oj) (hap : oi.apart ops oj = true)
    (hsi : ∀ cs b, oi.op ≠ .select cs b) (hsj : ∀ cs b, oj.op ≠ .select cs b) {K : List Sl → Prop} {env : List Sl}
    (hy : gYields P ops c ds oi s env) (h : gOp P ops c ds j K (envPut env oi.dst s)) :
    gOp P ops c ds j (fun e => gYields P ops c ds oi s e ∧ K (envPut e oi.dst s)) env := by
  obtain ⟨h1, h2, h3⟩ := Oper.apart_spec hap
  unfold gOp at *
  simp only [hj] at *
  obtain ⟨t, ht, hK⟩ := h
  exact ⟨t, (gYields_put hsj h1).1 ht, (gYields_put hsi h3).2 hy, by rw [← envPut_comm env s t h2]; exact hK⟩

theorem gYields.gOp {i : Nat} {o : Oper} {s : Sl} {env : List Sl} (hi : ops[i]? = some o) (hy : gYields P ops c ds o s env) {K : List Sl → Prop} (h : K (envPut env o.dst s)) : gOp P ops c ds i K env := by
  unfold Go.Proofs.Ytapojpjmeadabaa.FF.gOp
  simp only [hi]
  exact ⟨s, hy, h⟩

theorem wpAnyG_first {n i : Nat} {oi : Oper} {s : Sl} {L : Array Bool → List Sl → Prop} (hi : ops[i]? = some oi) (hsel : ∀ (j : Nat) (o : Oper) cs b, ops[j]? = some o → o.op ≠ .select cs b)
    (hlt : ∀ listed, HeadInv md ops n listed → ∀ k, k < n → listed.getD k true = false → ∀ t ∈ Region.ready md ops listed, t < n) (hin : i < n)
    (hdone : ∀ listed e, L listed e → ∀ j ∈ Region.ready md ops listed, n ≤ j) :
    ∀ (f : Nat) (listed : Array Bool) (env : List Sl), HeadInv md ops n listed →
      (∀ j oj, ops[j]? = some oj → j ≠ i → listed.getD j true = false → (∀ e ∈ oj.after, Region.binds md e = true → e.on ≠ i) → oi.apart ops oj = true) →
      i ∈ Region.ready md ops listed → gYields P ops c ds oi s env →
      wpAnyG P md ops c ds L n f (listed.setIfInBounds i true) (envPut env oi.dst s) → wpAnyG P md ops c ds L n (f + 1) listed env := by
  intro f
  induction f with
  | zero =>
    intro listed env inv _ hr hy H
    have hun := (mem_ready.1 hr).1
    refine ⟨fun h => (by rw [h] at hr; cases hr), fun j hj => ?_⟩
    have hjn := hlt listed inv i hin hun j hj
    refine ⟨hjn, ?_⟩
    by_cases hji : j = i
    · subst hji; exact hy.gOp hi H
    · have := hdone _ _ H j (ready_mono hj hji)
      omega
  | succ f ih =>
    intro listed env inv hfree hr hy H
    have hun := (mem_ready.1 hr).1
    refine ⟨fun h => (by rw [h] at hr; cases hr), fun j hj => ?_⟩
    have hjn := hlt listed inv i hin hun j hj
    refine ⟨hjn, ?_⟩
    by_cases hji : j = i
    · subst hji; exact hy.gOp hi H
    · have h1 := (H.2 j (ready_mono hj hji)).2
      obtain ⟨hjun, oj, hoj, hall⟩ := mem_ready.1 hj
      have hnot : ∀ e ∈ oj.after, Region.binds md e = true → e.on ≠ i := fun e he hb heq => by
        have h1 := hall e he hb
        rw [heq, getD_both hun] at h1
        cases h1
      have h2 := gOp_put hoj (hfree j oj hoj hji hjun hnot) (fun cs b => hsel i oi cs b hi) (fun cs b => hsel j oj cs b hoj) hy h1
      have hfree' : ∀ k ok, ops[k]? = some ok → k ≠ i → (listed.setIfInBounds j true).getD k true = false →
          (∀ e ∈ ok.after, Region.binds md e = true → e.on ≠ i) → oi.apart ops ok = true := fun k ok hk hki hun hno => by
        refine hfree k ok hk hki ?_ hno
        by_cases hjk : j = k
        · subst hjk; exact hjun
        · rw [getD_set_ne true hjk] at hun; exact hun
      refine gOp_mono (fun a' h3 => ih (listed.setIfInBounds j true) a' (inv.set hj hjn) hfree' (ready_mono hr (Ne.symm hji)) h3.1 ?_) h2
      rw [Array.setIfInBounds_comm _ _ hji]
      exact h3.2

theorem wpAnyG_lex {n : Nat} {L : Array Bool → List Sl → Prop} {Lq : List Sl → Prop} (hs : Region.noSelect ops = true)
    (hlt : ∀ listed, HeadInv md ops n listed → ∀ k, k < n → listed.getD k true = false → ∀ t ∈ Region.ready md ops listed, t < n)
    (B : Nat → Nat → Array Bool → Bool) (hB0 : ∀ k listed, B 0 k listed = true → ∀ e, Lq e → L listed e) (hB1 : ∀ listed e, L listed e → ∀ j ∈ Region.ready md ops listed, n ≤ j)
    (hBs : ∀ f k listed, B (f + 1) k listed = true → ((Region.ready md ops listed).contains k = true ∧ Region.free md ops listed k = true) ∧ B f (k + 1) (listed.setIfInBounds k true) = true) :
    ∀ (l : List Oper) (k : Nat) (listed : Array Bool) (env : List Sl), (∀ j, j < l.length → l[j]? = ops[k + j]?) → k + l.length = n → HeadInv md ops n listed →
    B l.length k listed = true → wpG P ops c ds Lq l env → wpAnyG P md ops c ds L n l.length listed env
  | [], k, listed, env, _, _, _, hB, h => hB0 k listed hB env h
  | o :: l, k, listed, env, hl, hk, inv, hB, h => by
    have h0 : ops[k]? = some o := by simpa using (hl 0 (by simp)).symm
    obtain ⟨⟨hr, hf⟩, hB'⟩ := hBs _ _ _ hB
    have hkn : k < n := by simp only [List.length_cons] at hk; omega
    have hr' : k ∈ Region.ready md ops listed := by simpa using hr
    obtain ⟨s, hy, hK⟩ := h
    exact wpAnyG_first h0 (Region.noSelect_spec hs) hlt hkn hB1 l.length listed env inv (Region.free_spec h0 hf) hr' hy
      (wpAnyG_lex hs hlt B hB0 hB1 hBs l (k + 1) _ _ (fun j hj => by have := hl (j + 1) (by simp; omega); simpa [Nat.add_assoc, Nat.add_comm 1 j] using this)
        (by simp only [List.length_cons] at hk; omega) (inv.set hr' hkn) hB' hK)

theorem wpAny_of_G {n g : Nat} {L : Array Bool → List Sl → Prop} {Q' : Exit → Act → World → Prop} (hL : ∀ listed env a w, L listed env → Fits c ds env a w → wpAny P md ops Q' g listed a w) :
    ∀ (f : Nat) (listed : Array Bool) (env : List Sl) (a : Act) (w : World), Fits c ds env a w → wpAnyG P md ops c ds L n f listed env → wpAny P md ops Q' (f + g) listed a w
  | 0, listed, env, a, w, hf, h => by rw [Nat.zero_add]; exact hL _ _ _ _ h hf
  | f + 1, listed, env, a, w, hf, h => by
    rw [show f + 1 + g = (f + g) + 1 by omega]
    exact ⟨fun h0 => absurd h0 h.1, fun i hi => wpOp_of_gOp hf (fun env' a' w' hf' h' => wpAny_of_G hL f _ env' a' w' hf' h') (h.2 i hi).2⟩

theorem Fits.start (a : Act) (w : World) (hC : c.C w) : Fits c a.defers (a.tmps.toList.map .v) a w :=
  ⟨hC, (fun s hs => by obtain ⟨x, _, rfl⟩ := List.mem_map.1 hs; exact SlS_v c x), rfl, (by simp), (fun t s hs => by
    simp only [List.getElem?_map] at hs
    cases ht : a.tmps.toList[t]? with
    | none => rw [ht] at hs; cases hs
    | some x =>
      rw [ht] at hs
      simp only [Option.map_some, Option.some.injEq] at hs
      subst hs
      have : a.tmps[t]? = some x := by simpa using ht
      simp [Sl.holds, this]),
    (fun t _ R hR => by
      simp only [List.getElem?_map, Option.map_eq_some_iff] at hR
      obtain ⟨x, _, hx⟩ := hR
      cases hx),
    (fun t _ t' _ _ R R' hR _ => by
      simp only [List.getElem?_map, Option.map_eq_some_iff] at hR
      obtain ⟨x, _, hx⟩ := hR
      cases hx)⟩

/-- What is asked behind the region: of whatever the slots came to. -/
def gPost (c : Cls) (ds : List Deferred) (K : Act → World → Prop) (env : List Sl) : Prop :=
  ∀ (xs : Nat → Value) (w : World), c.C w → (∀ (t : Nat) (R : Value → World → Prop), env[t]? = some (Sl.p R) → R (xs t) w) →
    (∀ t ∈ c.F, ∀ t' ∈ c.F, t ≠ t' → ∀ R R', env[t]? = some (Sl.p R) → env[t']? = some (Sl.p R') → xs t ≠ xs t') → K (fillA xs env ds) w

theorem gPost.of {K : Act → World → Prop} {env : List Sl} {a : Act} {w : World} (h : gPost c ds K env) (hf : Fits c ds env a w) : K a w := by
  rw [hf.fill]
  exact h _ w hf.ext (fun t R hR => hf.has t _ hR) hf.ap

/-- **A WHOLE REGION.** -/
theorem wp_region_c {id : Nat} {Q : Exit → Act → World → Prop} {a : Act} {w : World} {l : List Oper} (c : Cls) (hC : c.C w.drew) (hm : P.follows .mixedOrders = true) (hB : Region.lexB .any l.toArray = true)
    (h : wpG P l.toArray c a.defers (gPost c a.defers (fun a' w' => Q .normal a' w')) l (a.tmps.toList.map .v)) : (Code.region id l.toArray true).wp P Q a w := by
  simp only [Region.lexB, Bool.and_eq_true] at hB
  refine wp_region_any hm ?_
  have inv0 : HeadInv .any l.toArray l.length (Array.replicate l.toArray.size false) :=
    ⟨by simp, fun j oj _ hl => (by rw [getD_replicate_false] at hl; cases hl), fun t ht ht' => by simp at ht'; omega⟩
  have H := wpAnyG_lex (md := .any) (P := P) (c := c) (ds := a.defers) (n := l.length) (ops := l.toArray)
    (L := fun listed env => Region.ready .any l.toArray listed = [] ∧ gPost c a.defers (fun a' w' => Q .normal a' w') env) hB.1
    (fun listed _ _ _ _ t ht => by
      obtain ⟨_, o, ho, _⟩ := mem_ready.1 ht
      have := (Array.getElem?_eq_some_iff.1 ho).1
      simpa using this)
    (Region.lexFrom .any l.toArray) (fun k listed hb e he => ⟨by simpa [Region.lexFrom] using hb, he⟩)
    (fun listed e hL j hj => by rw [hL.1] at hj; cases hj)
    (fun f k listed hb => by simpa [Region.lexFrom, Bool.and_eq_true] using hb)
    l 0 (Array.replicate l.toArray.size false) (a.tmps.toList.map .v) (by simp) (by simp) inv0 (by simpa using hB.2) h
  have := wpAny_of_G (Q' := Q) (g := 0) (fun listed env a' w' hL hf => ⟨hL.1, hL.2.of hf⟩) _ _ _ a w.drew (Fits.start a w.drew hC) H
  simpa using this

/-- **A REGION WHOSE LAST OPERATIONS STAND BEHIND ALL OTHERS, ONE BEHIND THE OTHER**: these are walked as they stand. -/
theorem wp_region_ct {id : Nat} {Q : Exit → Act → World → Prop} {a : Act} {w : World} {l : List Oper} (n : Nat) (c : Cls) (hC : c.C w.drew) (hm : P.follows .mixedOrders = true) (hB : Region.lexTailB .any l.toArray n = true)
    (h : wpG P l.toArray c a.defers (gPost c a.defers (fun a' w' => wpList P l.toArray Q (l.drop n) a' w')) (l.take n) (a.tmps.toList.map .v)) : (Code.region id l.toArray true).wp P Q a w := by
  simp only [Region.lexTailB, Bool.and_eq_true, decide_eq_true_eq] at hB
  obtain ⟨⟨⟨⟨hsel, hn⟩, hs⟩, hc⟩, hlex⟩ := hB
  have hn' : n < l.length := by simpa using hn
  have htl : (l.take n).length = n := by simp; omega
  have hdl : (l.drop n).length = l.toArray.size - n := by simp
  refine wp_region_any hm ?_
  have inv0 : HeadInv .any l.toArray n (Array.replicate l.toArray.size false) :=
    ⟨by simp, fun j oj _ hl => (by rw [getD_replicate_false] at hl; cases hl), fun t _ ht => getD_in (by simpa using ht) (getD_replicate_false _ _)⟩
  have H := wpAnyG_lex (md := .any) (P := P) (c := c) (ds := a.defers) (n := n) (ops := l.toArray)
    (L := fun listed env => Region.seqB .any l.toArray (l.toArray.size - n) n listed = true ∧ gPost c a.defers (fun a' w' => wpList P l.toArray Q (l.drop n) a' w') env) hsel
    (fun listed inv k hk hun t ht => by
      rcases Nat.lt_or_ge t n with h' | h'
      · exact h'
      · exact absurd ht (tail_waits hs hc (by simpa using hn) inv _ k rfl hk hun t h'))
    (fun f k listed => decide (k + f = n) && Region.lexHead .any l.toArray (l.toArray.size - n) f k listed)
    (fun k listed hb e he => by
      simp only [Nat.add_zero, Region.lexHead, Bool.and_eq_true, decide_eq_true_eq] at hb
      obtain ⟨rfl, hb⟩ := hb
      exact ⟨hb, he⟩)
    (fun listed e hL => seqB_ready hL.1)
    (fun f k listed hb => by
      simp only [Region.lexHead, Bool.and_eq_true, decide_eq_true_eq] at hb ⊢
      exact ⟨hb.2.1, by omega, hb.2.2⟩)
    (l.take n) 0 (Array.replicate l.toArray.size false) (a.tmps.toList.map .v)
    (fun j hj => by
      have hj' : j < n := by rw [htl] at hj; exact hj
      simp [hj']) (by simpa using htl) inv0 (by rw [htl]; simp only [Nat.zero_add, decide_true, Bool.true_and]; exact hlex) h
  have := wpAny_of_G (Q' := Q) (g := l.toArray.size - n) (fun listed env a' w' hL hf => by
    have h2 := hL.2.of hf
    have := wpAny_of_seq (md := .any) (Q' := Q) (l.drop n) n listed a' w' (fun j => by simp [List.getElem?_drop]) (by rw [hdl]; exact hL.1) h2
    rwa [hdl] at this) _ _ _ a w.drew (Fits.start a w.drew hC) H
  rw [htl, show n + (l.toArray.size - n) = l.toArray.size by omega] at this
  exact this

end
end Go.Proofs.Ytapojpjmeadabaa.FF

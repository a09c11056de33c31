/- A region that draws its order, all of whose slots hold known values, and in which one operation st turns the world: those that stand before st by st's own edges meet only the worlds ahead of it; all others must be at home in both. -/
import Derived.Test.YtapojpjmeadabaaRegy
namespace Go.Proofs.Ytapojpjmeadabaa.FG
open Go.RowKit
set_option linter.unusedVariables false
set_option linter.unusedSimpArgs false
def early (md : Region.Mode) (ops : Array Oper) (st i : Nat) : Bool := i == st || (match ops[st]? with | some o => o.after.any (fun e => Region.binds md e && e.on == i) | none => false)
def sRun (P : Program) (C : Bool → World → Prop) (b' : Bool) (o : Oper) (v : Value) (a : Act) (w : World) : Prop :=
  ∃ w', ((execOp a.eval o).run P w = .ok (.value v) w' ∨ ((execOp a.eval o).run P w = .ok .skip w' ∧ v = undef)) ∧ C b' w'
def sYields (P : Program) (md : Region.Mode) (ops : Array Oper) (C : Bool → World → Prop) (st i : Nat) (o : Oper) (v : Value) (a : Act) : Prop :=
  Region.wanted o (yielded ops a.tmps) = true ∧ ∀ b, (early md ops st i = true → b = false) → ∀ w, C b w → sRun P C (b || i == st) o v a w
def sOper (P : Program) (md : Region.Mode) (ops : Array Oper) (C : Bool → World → Prop) (st i : Nat) (o : Oper) (K : Act → Prop) (a : Act) : Prop :=
  ∃ v, sYields P md ops C st i o v a ∧ K (a.put o.dst v)
def wpS (P : Program) (md : Region.Mode) (ops : Array Oper) (C : Bool → World → Prop) (st : Nat) (Q : Act → Prop) : Nat → List Oper → Act → Prop
  | _, [], a => Q a
  | k, o :: rest, a => sOper P md ops C st k o (wpS P md ops C st Q (k + 1) rest) a
def sOp (P : Program) (md : Region.Mode) (ops : Array Oper) (C : Bool → World → Prop) (st i : Nat) (K : Act → Prop) (a : Act) : Prop :=
  match ops[i]? with
  | none => K a
  | some o => sOper P md ops C st i o K a
def wpAnyS (P : Program) (md : Region.Mode) (ops : Array Oper) (C : Bool → World → Prop) (st : Nat) (L : Array Bool → Act → Prop) : Nat → Array Bool → Act → Prop
  | 0, listed, a => L listed a
  | f + 1, listed, a => Region.ready md ops listed ≠ [] ∧ ∀ i ∈ Region.ready md ops listed, sOp P md ops C st i (wpAnyS P md ops C st L f (listed.setIfInBounds i true)) a
def lexS (md : Region.Mode) (ops : Array Oper) (st : Nat) : Nat → Nat → Array Bool → Bool
  | 0, _, listed => (Region.ready md ops listed).isEmpty && listed.getD st false
  | f + 1, k, listed => ((Region.ready md ops listed).contains k && Region.free md ops listed k) && lexS md ops st f (k + 1) (listed.setIfInBounds k true)
def lexSB (md : Region.Mode) (ops : Array Oper) (st : Nat) : Bool := Region.noSelect ops && lexS md ops st ops.size 0 (Array.replicate ops.size false)

section
variable {P : Program} {ops : Array Oper} {md : Region.Mode} {C : Bool → World → Prop} {st : Nat}
theorem sOp_mono {i : Nat} {a : Act} {K K' : Act → Prop} (h : ∀ e, K e → K' e) (hh : sOp P md ops C st i K a) : sOp P md ops C st i K' a := by
  unfold sOp at *
  split
  · rename_i ho; simp only [ho] at hh; exact h _ hh
  · rename_i o ho; simp only [ho] at hh; obtain ⟨s, h1, h2⟩ := hh; exact ⟨s, h1, h _ h2⟩
theorem sYields_put {i : Nat} {o : Oper} (hsel : ∀ cs b, o.op ≠ .select cs b) {v u : Value} {a : Act} {dst : Option Tmp} (hd : ∀ d, dst = some d → d ∉ o.looksAt ops) :
    sYields P md ops C st i o v (a.put dst u) ↔ sYields P md ops C st i o v a := by
  unfold sYields sRun
  rw [wanted_put o _ dst _ hd, execOp_put o hsel _ dst _ hd]
theorem sOp_put {i j : Nat} {oi oj : Oper} {v : Value} (hj : ops[j]? = some oj) (hap : oi.apart ops oj = true)
    (hsi : ∀ cs b, oi.op ≠ .select cs b) (hsj : ∀ cs b, oj.op ≠ .select cs b) {K : Act → Prop} {a : Act}
    (hy : sYields P md ops C st i oi v a) (h : sOp P md ops C st j K (a.put oi.dst v)) :
    sOp P md ops C st j (fun e => sYields P md ops C st i oi v e ∧ K (e.put oi.dst v)) a := by
  obtain ⟨h1, h2, h3⟩ := Oper.apart_spec hap
  unfold sOp at *
  simp only [hj] at *
  obtain ⟨t, ht, hK⟩ := h
  exact ⟨t, (sYields_put hsj h1).1 ht, (sYields_put hsi h3).2 hy, by rw [← Act.put_comm a v t h2]; exact hK⟩
theorem sYields.sOp {i : Nat} {o : Oper} {v : Value} {a : Act} (hi : ops[i]? = some o) (hy : sYields P md ops C st i o v a) {K : Act → Prop} (h : K (a.put o.dst v)) : sOp P md ops C st i K a := by
  unfold Go.Proofs.Ytapojpjmeadabaa.FG.sOp
  simp only [hi]
  exact ⟨v, hy, h⟩
theorem wpAnyS_first {i : Nat} {oi : Oper} {v : Value} {L : Array Bool → Act → Prop} (hi : ops[i]? = some oi) (hsel : ∀ (j : Nat) (o : Oper) cs b, ops[j]? = some o → o.op ≠ .select cs b)
    (hdone : ∀ listed e, L listed e → Region.ready md ops listed = []) :
    ∀ (f : Nat) (listed : Array Bool) (a : Act),
      (∀ j oj, ops[j]? = some oj → j ≠ i → listed.getD j true = false → (∀ e ∈ oj.after, Region.binds md e = true → e.on ≠ i) → oi.apart ops oj = true) →
      i ∈ Region.ready md ops listed → sYields P md ops C st i oi v a →
      wpAnyS P md ops C st L f (listed.setIfInBounds i true) (a.put oi.dst v) → wpAnyS P md ops C st L (f + 1) listed a := by
  intro f
  induction f with
  | zero =>
    intro listed a _ hr hy H
    refine ⟨fun h => (by rw [h] at hr; cases hr), fun j hj => ?_⟩
    by_cases hji : j = i
    · subst hji; exact hy.sOp hi H
    · have h1 := ready_mono hj hji
      rw [hdone _ _ H] at h1
      cases h1
  | succ f ih =>
    intro listed a hfree hr hy H
    have hun := (mem_ready.1 hr).1
    refine ⟨fun h => (by rw [h] at hr; cases hr), fun j hj => ?_⟩
    by_cases hji : j = i
    · subst hji; exact hy.sOp hi H
    · have h1 := H.2 j (ready_mono hj hji)
      obtain ⟨hjun, oj, hoj, hall⟩ := mem_ready.1 hj
      have hnot : ∀ e ∈ oj.after, Region.binds md e = true → e.on ≠ i := fun e he hb heq => by
        have h1 := hall e he hb
        rw [heq, getD_both hun] at h1
        cases h1
      have h2 := sOp_put hoj (hfree j oj hoj hji hjun hnot) (fun cs b => hsel i oi cs b hi) (fun cs b => hsel j oj cs b hoj) hy h1
      have hfree' : ∀ k ok, ops[k]? = some ok → k ≠ i → (listed.setIfInBounds j true).getD k true = false →
          (∀ e ∈ ok.after, Region.binds md e = true → e.on ≠ i) → oi.apart ops ok = true := fun k ok hk hki hun hno => by
        refine hfree k ok hk hki ?_ hno
        by_cases hjk : j = k
        · subst hjk; exact hjun
        · rw [getD_set_ne true hjk] at hun; exact hun
      refine sOp_mono (fun a' h3 => ih (listed.setIfInBounds j true) a' hfree' (ready_mono hr (Ne.symm hji)) h3.1 ?_) h2
      rw [Array.setIfInBounds_comm _ _ hji]
      exact h3.2
theorem wpAnyS_lex {Q : Act → Prop} (hs : Region.noSelect ops = true) :
    ∀ (l : List Oper) (k : Nat) (listed : Array Bool) (a : Act), (∀ j, j < l.length → l[j]? = ops[k + j]?) →
    lexS md ops st l.length k listed = true → wpS P md ops C st Q k l a → wpAnyS P md ops C st (fun listed a => (Region.ready md ops listed = [] ∧ listed.getD st false = true) ∧ Q a) l.length listed a
  | [], k, listed, a, _, hB, h => by
    simp only [List.length_nil, lexS, Bool.and_eq_true, List.isEmpty_iff] at hB
    exact ⟨hB, h⟩
  | o :: l, k, listed, a, hl, hB, h => by
    have h0 : ops[k]? = some o := by simpa using (hl 0 (by simp)).symm
    simp only [List.length_cons, lexS, Bool.and_eq_true] at hB
    obtain ⟨⟨hr, hf⟩, hB'⟩ := hB
    have hr' : k ∈ Region.ready md ops listed := by simpa using hr
    obtain ⟨v, hy, hK⟩ := h
    exact wpAnyS_first h0 (Region.noSelect_spec hs) (fun _ _ hL => hL.1.1) l.length listed a (Region.free_spec h0 hf) hr' hy
      (wpAnyS_lex hs l (k + 1) _ _ (fun j hj => by have := hl (j + 1) (by simp; omega); simpa [Nat.add_assoc, Nat.add_comm 1 j] using this) hB' hK)
theorem wpOp_of_sOp {i : Nat} {o : Oper} (ho : ops[i]? = some o) {a : Act} {w : World} {K : Act → Prop} {K' : Act → World → Prop} {Q' : Exit → Act → World → Prop} {b : Bool} (hb : early md ops st i = true → b = false) (hC : C b w)
    (h : ∀ a' w', C (b || i == st) w' → K a' → K' a' w') (hh : sOp P md ops C st i K a) : wpOp P ops Q' i K' a w := by
  unfold sOp at hh
  unfold wpOp
  simp only [ho] at hh ⊢
  obtain ⟨v, ⟨hw, hy⟩, hK⟩ := hh
  obtain ⟨w', hr, hC'⟩ := hy b hb w hC
  rw [if_pos hw]
  left
  unfold Oper.wp
  rcases hr with hr | ⟨hr, rfl⟩ <;> rw [hr] <;> exact h _ _ hC' hK
theorem wpAny_of_S {Q : Act → Prop} {Q' : Exit → Act → World → Prop} (hL : ∀ a w, C true w → Q a → Q' .normal a w) :
    ∀ (f : Nat) (listed : Array Bool) (a : Act) (w : World), HeadInv md ops ops.size listed → C (listed.getD st false) w →
      wpAnyS P md ops C st (fun listed a => (Region.ready md ops listed = [] ∧ listed.getD st false = true) ∧ Q a) f listed a → wpAny P md ops Q' f listed a w
  | 0, listed, a, w, inv, hC, h => ⟨h.1.1, hL a w (by rw [h.1.2] at hC; exact hC) h.2⟩
  | f + 1, listed, a, w, inv, hC, h => by
    refine ⟨fun h0 => absurd h0 h.1, fun i hi => ?_⟩
    obtain ⟨hun, oi, hoi, hall⟩ := mem_ready.1 hi
    have hilt : i < ops.size := (Array.getElem?_eq_some_iff.1 hoi).1
    refine wpOp_of_sOp hoi (b := listed.getD st false) (fun he => ?_) hC (fun a' w' hC' hK => wpAny_of_S hL f _ a' w' (inv.set hi hilt) ?_ hK) (h.2 i hi)
    · cases hbt : listed.getD st false with
      | false => rfl
      | true =>
        exfalso
        unfold early at he
        simp only [Bool.or_eq_true, beq_iff_eq] at he
        rcases he with rfl | he
        · rw [getD_both hun] at hbt; cases hbt
        · cases hos : ops[st]? with
          | none => rw [hos] at he; cases he
          | some o =>
            rw [hos] at he
            simp only [Array.any_eq_true', Bool.and_eq_true, beq_iff_eq] at he
            obtain ⟨e, he1, he2, he3⟩ := he
            have h1 := inv.closed st o hos hbt e he1 he2
            rw [he3, getD_both hun] at h1
            cases h1
    · by_cases his : i = st
      · subst his
        have e1 : (listed.setIfInBounds i true).getD i false = true := by
          have := inv.size
          simp [this, hilt]
        rw [e1]
        have e2 : (listed.getD i false || i == i) = true := by simp
        rw [e2] at hC'
        exact hC'
      · rw [getD_set_ne false his]
        have e2 : (listed.getD st false || i == st) = listed.getD st false := by
          have : (i == st) = false := by simpa using his
          rw [this, Bool.or_false]
        rw [e2] at hC'
        exact hC'
end
theorem wp_region_s {P : Program} {id : Nat} {Q : Exit → Act → World → Prop} {a : Act} {w : World} {l : List Oper} (st : Nat) (C : Bool → World → Prop) (hC : C false w.drew) (hm : P.follows .mixedOrders = true) (hB : lexSB .any l.toArray st = true)
    (h : wpS P .any l.toArray C st (fun a' => ∀ w', C true w' → Q .normal a' w') 0 l a) : (Code.region id l.toArray true).wp P Q a w := by
  simp only [lexSB, Bool.and_eq_true] at hB
  refine wp_region_any hm ?_
  have inv0 : HeadInv .any l.toArray l.toArray.size (Array.replicate l.toArray.size false) :=
    ⟨by simp, fun j oj _ hl => (by rw [getD_replicate_false] at hl; cases hl), fun t ht ht' => by omega⟩
  have H := wpAnyS_lex (md := .any) (P := P) (ops := l.toArray) (C := C) (st := st) hB.1 l 0 (Array.replicate l.toArray.size false) a (by simp) (by simpa using hB.2) h
  have := wpAny_of_S (Q' := Q) (fun a' w' hC' hQ => hQ w' hC') _ _ a w.drew inv0 (by rw [getD_replicate_false]; exact hC) H
  simpa using this

/-! ### Rules: C false: worlds that have only grown out of w0; C true: any of D. -/
section
variable {P : Program} {ops : Array Oper} {w0 : World} {D : World → Prop} {st k : Nat} {Q : Act → Prop} {rest : List Oper} {o : Oper} {a : Act}
def two (w0 : World) (D : World → Prop) : Bool → World → Prop
  | false, w => Ext w0 w
  | true, w => D w
/-- An operation that looks at nothing but its slots. -/
theorem sp (hw : Region.wanted o (yielded ops a.tmps) = true) (hs : (k == st) = false) (v : Value) (hr : ∀ w, (execOp a.eval o).run P w = .ok (.value v) w)
    (h : wpS P .any ops (two w0 D) st Q (k + 1) rest (a.put o.dst v)) : wpS P .any ops (two w0 D) st Q k (o :: rest) a :=
  ⟨v, ⟨hw, fun b _ w hC => ⟨w, .inl (hr w), by rw [hs, Bool.or_false]; exact hC⟩⟩, h⟩
/-- One that stands before st, and reads. -/
theorem sq (hw : Region.wanted o (yielded ops a.tmps) = true) (hs : (k == st) = false) (he : early .any ops st k = true) (v : Value) (hr : ∀ x : Grow w0, (execOp a.eval o).run P (w0.ext x) = .ok (.value v) (w0.ext x))
    (h : wpS P .any ops (two w0 D) st Q (k + 1) rest (a.put o.dst v)) : wpS P .any ops (two w0 D) st Q k (o :: rest) a :=
  ⟨v, ⟨hw, fun b hb w hC => by
    have := hb he
    subst this
    obtain ⟨x, rfl⟩ := mk_ext hC
    exact ⟨w0.ext x, .inl (hr x), by rw [hs]; exact hC⟩⟩, h⟩
/-- st itself: a store. -/
theorem ss (hw : Region.wanted o (yielded ops a.tmps) = true) (hs : (k == st) = true) (hr : ∀ x : Grow w0, ∃ w', (execOp a.eval o).run P (w0.ext x) = .ok .skip w' ∧ D w')
    (h : wpS P .any ops (two w0 D) st Q (k + 1) rest (a.put o.dst undef)) : wpS P .any ops (two w0 D) st Q k (o :: rest) a :=
  ⟨undef, ⟨hw, fun b hb w hC => by
    have := hb (by unfold early; rw [hs, Bool.true_or])
    subst this
    obtain ⟨x, rfl⟩ := mk_ext hC
    obtain ⟨w', h1, h2⟩ := hr x
    exact ⟨w', .inr ⟨h1, rfl⟩, by rw [hs]; exact h2⟩⟩, h⟩
end
end Go.Proofs.Ytapojpjmeadabaa.FG

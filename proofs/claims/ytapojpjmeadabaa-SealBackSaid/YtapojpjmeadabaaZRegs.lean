/- Regs, Cut, Dec1: several texts in one. -/
import Derived.Test.YtapojpjmeadabaaZRegw
import Derived.Test.YtapojpjmeadabaaZSeal1
import Derived.Test.YtapojpjmeadabaaZSeal12
import Derived.Test.YtapojpjmeadabaaZSeal5
section
/- A region that draws its order, in which three operations turn the world, each bound behind the one before, and all others look at nothing but their slots: one walk of the text's order serves every order. -/
namespace Go.Proofs.Ytapojpjmeadabaa.FS
open Go.RowKit
set_option linter.unusedVariables false
set_option linter.unusedSimpArgs false
/-- How far the three are, by what is done. -/
def sg (i0 i1 i2 : Nat) (listed : Array Bool) : Nat := if listed.getD i2 false then 3 else if listed.getD i1 false then 2 else if listed.getD i0 false then 1 else 0
def step (i0 i1 i2 i s s' : Nat) : Prop := (i = i0 ∧ s = 0 ∧ s' = 1) ∨ (i = i1 ∧ s = 1 ∧ s' = 2) ∨ (i = i2 ∧ s = 2 ∧ s' = 3) ∨ (i ≠ i0 ∧ i ≠ i1 ∧ i ≠ i2 ∧ s' = s)
def edge (md : Region.Mode) (ops : Array Oper) (i j : Nat) : Bool := match ops[i]? with | some o => o.after.any (fun e => Region.binds md e && e.on == j) | none => false
def sYields (P : Program) (ops : Array Oper) (W : Nat → World) (i0 i1 i2 i : Nat) (o : Oper) (v : Value) (a : Act) : Prop :=
  Region.wanted o (yielded ops a.tmps) = true ∧ ∀ s s', step i0 i1 i2 i s s' → (execOp a.eval o).run P (W s) = .ok (.value v) (W s')
def sOper (P : Program) (ops : Array Oper) (W : Nat → World) (i0 i1 i2 i : Nat) (o : Oper) (K : Act → Prop) (a : Act) : Prop :=
  ∃ v, sYields P ops W i0 i1 i2 i o v a ∧ K (a.put o.dst v)
def wpS (P : Program) (ops : Array Oper) (W : Nat → World) (i0 i1 i2 : Nat) (Q : Act → Prop) : Nat → List Oper → Act → Prop
  | _, [], a => Q a
  | k, o :: rest, a => sOper P ops W i0 i1 i2 k o (wpS P ops W i0 i1 i2 Q (k + 1) rest) a
def sOp (P : Program) (ops : Array Oper) (W : Nat → World) (i0 i1 i2 i : Nat) (K : Act → Prop) (a : Act) : Prop :=
  match ops[i]? with
  | none => K a
  | some o => sOper P ops W i0 i1 i2 i o K a
def wpAnyS (P : Program) (md : Region.Mode) (ops : Array Oper) (W : Nat → World) (i0 i1 i2 : Nat) (L : Array Bool → Act → Prop) : Nat → Array Bool → Act → Prop
  | 0, listed, a => L listed a
  | f + 1, listed, a => Region.ready md ops listed ≠ [] ∧ ∀ i ∈ Region.ready md ops listed, sOp P ops W i0 i1 i2 i (wpAnyS P md ops W i0 i1 i2 L f (listed.setIfInBounds i true)) a
def lexS (md : Region.Mode) (ops : Array Oper) (st : Nat) : Nat → Nat → Array Bool → Bool
  | 0, _, listed => (Region.ready md ops listed).isEmpty && listed.getD st false
  | f + 1, k, listed => ((Region.ready md ops listed).contains k && Region.free md ops listed k) && lexS md ops st f (k + 1) (listed.setIfInBounds k true)
def lexSB (md : Region.Mode) (ops : Array Oper) (i0 i1 i2 : Nat) : Bool := Region.noSelect ops && edge md ops i1 i0 && edge md ops i2 i1 && lexS md ops i2 ops.size 0 (Array.replicate ops.size false)

section
variable {P : Program} {ops : Array Oper} {md : Region.Mode} {W : Nat → World} {i0 i1 i2 : Nat}
theorem sOp_mono {i : Nat} {a : Act} {K K' : Act → Prop} (h : ∀ e, K e → K' e) (hh : sOp P ops W i0 i1 i2 i K a) : sOp P ops W i0 i1 i2 i K' a := by
  unfold sOp at *
  split
  · rename_i ho; simp only [ho] at hh; exact h _ hh
  · rename_i o ho; simp only [ho] at hh; obtain ⟨s, h1, h2⟩ := hh; exact ⟨s, h1, h _ h2⟩
theorem sYields_put {i : Nat} {o : Oper} (hsel : ∀ cs b, o.op ≠ .select cs b) {v u : Value} {a : Act} {dst : Option Tmp} (hd : ∀ d, dst = some d → d ∉ o.looksAt ops) :
    sYields P ops W i0 i1 i2 i o v (a.put dst u) ↔ sYields P ops W i0 i1 i2 i o v a := by
  unfold sYields
  rw [wanted_put o _ dst _ hd, execOp_put o hsel _ dst _ hd]
theorem sOp_put {i j : Nat} {oi oj : Oper} {v : Value} (hj : ops[j]? = some oj) (hap : oi.apart ops oj = true)
    (hsi : ∀ cs b, oi.op ≠ .select cs b) (hsj : ∀ cs b, oj.op ≠ .select cs b) {K : Act → Prop} {a : Act}
    (hy : sYields P ops W i0 i1 i2 i oi v a) (h : sOp P ops W i0 i1 i2 j K (a.put oi.dst v)) :
    sOp P ops W i0 i1 i2 j (fun e => sYields P ops W i0 i1 i2 i oi v e ∧ K (e.put oi.dst v)) a := by
  obtain ⟨h1, h2, h3⟩ := Oper.apart_spec hap
  unfold sOp at *
  simp only [hj] at *
  obtain ⟨t, ht, hK⟩ := h
  exact ⟨t, (sYields_put hsj h1).1 ht, (sYields_put hsi h3).2 hy, by rw [← Act.put_comm a v t h2]; exact hK⟩
theorem sYields.sOp {i : Nat} {o : Oper} {v : Value} {a : Act} (hi : ops[i]? = some o) (hy : sYields P ops W i0 i1 i2 i o v a) {K : Act → Prop} (h : K (a.put o.dst v)) : sOp P ops W i0 i1 i2 i K a := by
  unfold Go.Proofs.Ytapojpjmeadabaa.FS.sOp
  simp only [hi]
  exact ⟨v, hy, h⟩
theorem wpAnyS_first {i : Nat} {oi : Oper} {v : Value} {L : Array Bool → Act → Prop} (hi : ops[i]? = some oi) (hsel : ∀ (j : Nat) (o : Oper) cs b, ops[j]? = some o → o.op ≠ .select cs b)
    (hdone : ∀ listed e, L listed e → Region.ready md ops listed = []) :
    ∀ (f : Nat) (listed : Array Bool) (a : Act),
      (∀ j oj, ops[j]? = some oj → j ≠ i → listed.getD j true = false → (∀ e ∈ oj.after, Region.binds md e = true → e.on ≠ i) → oi.apart ops oj = true) →
      i ∈ Region.ready md ops listed → sYields P ops W i0 i1 i2 i oi v a →
      wpAnyS P md ops W i0 i1 i2 L f (listed.setIfInBounds i true) (a.put oi.dst v) → wpAnyS P md ops W i0 i1 i2 L (f + 1) listed a := by
  intro f
  induction f with
  | zero =>
    intro listed a _ hr hy H
    refine ⟨fun h => (by rw [h] at hr; cases hr), fun j hj => ?_⟩
    by_cases hji : j = i
    · subst hji; exact hy.sOp hi H
    · have h1 := ready_mono hj hji
      rw [hdone _ _ H] at h1
      cases h1
  | succ f ih =>
    intro listed a hfree hr hy H
    have hun := (mem_ready.1 hr).1
    refine ⟨fun h => (by rw [h] at hr; cases hr), fun j hj => ?_⟩
    by_cases hji : j = i
    · subst hji; exact hy.sOp hi H
    · have h1 := H.2 j (ready_mono hj hji)
      obtain ⟨hjun, oj, hoj, hall⟩ := mem_ready.1 hj
      have hnot : ∀ e ∈ oj.after, Region.binds md e = true → e.on ≠ i := fun e he hb heq => by
        have h1 := hall e he hb
        rw [heq, getD_both hun] at h1
        cases h1
      have h2 := sOp_put hoj (hfree j oj hoj hji hjun hnot) (fun cs b => hsel i oi cs b hi) (fun cs b => hsel j oj cs b hoj) hy h1
      have hfree' : ∀ k ok, ops[k]? = some ok → k ≠ i → (listed.setIfInBounds j true).getD k true = false →
          (∀ e ∈ ok.after, Region.binds md e = true → e.on ≠ i) → oi.apart ops ok = true := fun k ok hk hki hun hno => by
        refine hfree k ok hk hki ?_ hno
        by_cases hjk : j = k
        · subst hjk; exact hjun
        · rw [getD_set_ne true hjk] at hun; exact hun
      refine sOp_mono (fun a' h3 => ih (listed.setIfInBounds j true) a' hfree' (ready_mono hr (Ne.symm hji)) h3.1 ?_) h2
      rw [Array.setIfInBounds_comm _ _ hji]
      exact h3.2
theorem wpAnyS_lex {Q : Act → Prop} (hs : Region.noSelect ops = true) :
    ∀ (l : List Oper) (k : Nat) (listed : Array Bool) (a : Act), (∀ j, j < l.length → l[j]? = ops[k + j]?) →
    lexS md ops i2 l.length k listed = true → wpS P ops W i0 i1 i2 Q k l a → wpAnyS P md ops W i0 i1 i2 (fun listed a => (Region.ready md ops listed = [] ∧ listed.getD i2 false = true) ∧ Q a) l.length listed a
  | [], k, listed, a, _, hB, h => by
    simp only [List.length_nil, lexS, Bool.and_eq_true, List.isEmpty_iff] at hB
    exact ⟨hB, h⟩
  | o :: l, k, listed, a, hl, hB, h => by
    have h0 : ops[k]? = some o := by simpa using (hl 0 (by simp)).symm
    simp only [List.length_cons, lexS, Bool.and_eq_true] at hB
    obtain ⟨⟨hr, hf⟩, hB'⟩ := hB
    have hr' : k ∈ Region.ready md ops listed := by simpa using hr
    obtain ⟨v, hy, hK⟩ := h
    exact wpAnyS_first h0 (Region.noSelect_spec hs) (fun _ _ hL => hL.1.1) l.length listed a (Region.free_spec h0 hf) hr' hy
      (wpAnyS_lex hs l (k + 1) _ _ (fun j hj => by have := hl (j + 1) (by simp; omega); simpa [Nat.add_assoc, Nat.add_comm 1 j] using this) hB' hK)
theorem edge_closed {listed : Array Bool} {t i j : Nat} (inv : HeadInv md ops t listed) (he : edge md ops i j = true) (hi : listed.getD i false = true) : listed.getD j false = true := by
  unfold edge at he
  cases ho : ops[i]? with
  | none => rw [ho] at he; cases he
  | some o =>
    rw [ho] at he
    simp only [Array.any_eq_true', Bool.and_eq_true, beq_iff_eq] at he
    obtain ⟨e, he1, he2, he3⟩ := he
    have h1 := inv.closed i o ho hi e he1 he2
    rw [he3] at h1
    exact h1
theorem edge_ready {listed : Array Bool} {i j : Nat} (he : edge md ops i j = true) (hi : i ∈ Region.ready md ops listed) : listed.getD j false = true := by
  obtain ⟨_, o, ho, hall⟩ := mem_ready.1 hi
  unfold edge at he
  rw [ho] at he
  simp only [Array.any_eq_true', Bool.and_eq_true, beq_iff_eq] at he
  obtain ⟨e, he1, he2, he3⟩ := he
  have h1 := hall e he1 he2
  rw [he3] at h1
  exact h1
theorem step_ready {listed : Array Bool} {i : Nat} (inv : HeadInv md ops ops.size listed) (e1 : edge md ops i1 i0 = true) (e2 : edge md ops i2 i1 = true) (hi : i ∈ Region.ready md ops listed) (hilt : i < ops.size)
    (n01 : i0 ≠ i1) (n02 : i0 ≠ i2) (n12 : i1 ≠ i2) : step i0 i1 i2 i (sg i0 i1 i2 listed) (sg i0 i1 i2 (listed.setIfInBounds i true)) := by
  have hun : listed.getD i false = false := getD_both (mem_ready.1 hi).1
  have hset : (listed.setIfInBounds i true).getD i false = true := by have := inv.size; simp [this, hilt]
  have hne : ∀ k, i ≠ k → (listed.setIfInBounds i true).getD k false = listed.getD k false := fun k hk => getD_set_ne false hk
  have no2 : listed.getD i1 false = false → listed.getD i2 false = false := fun h => by
    cases hb : listed.getD i2 false with
    | false => rfl
    | true => rw [edge_closed inv e2 hb] at h; cases h
  have no1 : listed.getD i0 false = false → listed.getD i1 false = false := fun h => by
    cases hb : listed.getD i1 false with
    | false => rfl
    | true => rw [edge_closed inv e1 hb] at h; cases h
  unfold step sg
  by_cases h0 : i = i0
  · subst h0
    left
    have a1 := no1 hun
    have a2 := no2 a1
    rw [hset, hne i1 n01, hne i2 n02, a1, a2, hun]
    simp
  by_cases h1 : i = i1
  · subst h1
    right; left
    have a0 := edge_ready e1 hi
    have a2 := no2 hun
    rw [hset, hne i0 (Ne.symm n01), hne i2 n12, a0, a2, hun]
    simp
  by_cases h2 : i = i2
  · subst h2
    right; right; left
    have a1 := edge_ready e2 hi
    rw [hset, hun, a1]
    simp
  · right; right; right
    rw [hne i0 h0, hne i1 h1, hne i2 h2]
    exact ⟨h0, h1, h2, rfl⟩
theorem wpOp_of_sOp {i : Nat} {o : Oper} (ho : ops[i]? = some o) {a : Act} {K : Act → Prop} {K' : Act → World → Prop} {Q' : Exit → Act → World → Prop} {s s' : Nat} (hst : step i0 i1 i2 i s s')
    (h : ∀ a', K a' → K' a' (W s')) (hh : sOp P ops W i0 i1 i2 i K a) : wpOp P ops Q' i K' a (W s) := by
  unfold sOp at hh
  unfold wpOp
  simp only [ho] at hh ⊢
  obtain ⟨v, ⟨hw, hy⟩, hK⟩ := hh
  have hr := hy s s' hst
  rw [if_pos hw]
  left
  unfold Oper.wp
  rw [hr]
  exact h _ hK
theorem wpAny_of_S {Q : Act → Prop} {Q' : Exit → Act → World → Prop} (e1 : edge md ops i1 i0 = true) (e2 : edge md ops i2 i1 = true) (n01 : i0 ≠ i1) (n02 : i0 ≠ i2) (n12 : i1 ≠ i2) (hL : ∀ a, Q a → Q' .normal a (W 3)) :
    ∀ (f : Nat) (listed : Array Bool) (a : Act), HeadInv md ops ops.size listed →
      wpAnyS P md ops W i0 i1 i2 (fun listed a => (Region.ready md ops listed = [] ∧ listed.getD i2 false = true) ∧ Q a) f listed a → wpAny P md ops Q' f listed a (W (sg i0 i1 i2 listed))
  | 0, listed, a, inv, h => ⟨h.1.1, by
      have e : sg i0 i1 i2 listed = 3 := by unfold sg; rw [h.1.2]; rfl
      rw [e]; exact hL a h.2⟩
  | f + 1, listed, a, inv, h => by
    refine ⟨fun h0 => absurd h0 h.1, fun i hi => ?_⟩
    obtain ⟨hun, oi, hoi, hall⟩ := mem_ready.1 hi
    have hilt : i < ops.size := (Array.getElem?_eq_some_iff.1 hoi).1
    exact wpOp_of_sOp hoi (step_ready inv e1 e2 hi hilt n01 n02 n12) (fun a' hK => wpAny_of_S e1 e2 n01 n02 n12 hL f _ a' (inv.set hi hilt) hK) (h.2 i hi)
end
theorem wp_region_3 {P : Program} {id : Nat} {Q : Exit → Act → World → Prop} {a : Act} {w : World} {l : List Oper} (i0 i1 i2 : Nat) (n01 : i0 ≠ i1) (n02 : i0 ≠ i2) (n12 : i1 ≠ i2) (W : Nat → World) (hW : W 0 = w.drew) (hm : P.follows .mixedOrders = true) (hB : lexSB .any l.toArray i0 i1 i2 = true)
    (h : wpS P l.toArray W i0 i1 i2 (fun a' => Q .normal a' (W 3)) 0 l a) : (Code.region id l.toArray true).wp P Q a w := by
  simp only [lexSB, Bool.and_eq_true] at hB
  refine wp_region_any hm ?_
  have inv0 : HeadInv .any l.toArray l.toArray.size (Array.replicate l.toArray.size false) :=
    ⟨by simp, fun j oj _ hl => (by rw [getD_replicate_false] at hl; cases hl), fun t ht ht' => by omega⟩
  have H := wpAnyS_lex (md := .any) (P := P) (ops := l.toArray) (W := W) (i0 := i0) (i1 := i1) (i2 := i2) hB.1.1.1 l 0 (Array.replicate l.toArray.size false) a (by simp) (by simpa using hB.2) h
  have := wpAny_of_S (Q' := Q) hB.1.1.2 hB.1.2 n01 n02 n12 (fun a' hQ => hQ) _ _ a inv0 H
  have e : sg i0 i1 i2 (Array.replicate l.toArray.size false) = 0 := by unfold sg; simp only [getD_replicate_false]; rfl
  rw [e, hW] at this
  simpa using this

section
variable {P : Program} {ops : Array Oper} {W : Nat → World} {i0 i1 i2 k : Nat} {Q : Act → Prop} {rest : List Oper} {o : Oper} {a : Act}
/-- An operation that looks at nothing but its slots. -/
theorem sp (hw : Region.wanted o (yielded ops a.tmps) = true) (h0 : k ≠ i0) (h1 : k ≠ i1) (h2 : k ≠ i2) (v : Value) (hr : ∀ w, (execOp a.eval o).run P w = .ok (.value v) w)
    (h : wpS P ops W i0 i1 i2 Q (k + 1) rest (a.put o.dst v)) : wpS P ops W i0 i1 i2 Q k (o :: rest) a :=
  ⟨v, ⟨hw, fun s s' hst => by
    unfold step at hst
    have : s' = s := by omega
    rw [this]
    exact hr _⟩, h⟩
/-- One of the three. -/
theorem si (hw : Region.wanted o (yielded ops a.tmps) = true) (n01 : i0 ≠ i1) (n02 : i0 ≠ i2) (n12 : i1 ≠ i2) (s : Nat) (hs : (k = i0 ∧ s = 0) ∨ (k = i1 ∧ s = 1) ∨ (k = i2 ∧ s = 2)) (v : Value) (hr : (execOp a.eval o).run P (W s) = .ok (.value v) (W (s + 1)))
    (h : wpS P ops W i0 i1 i2 Q (k + 1) rest (a.put o.dst v)) : wpS P ops W i0 i1 i2 Q k (o :: rest) a :=
  ⟨v, ⟨hw, fun t t' hst => by
    unfold step at hst
    have h1 : t = s := by omega
    have h2 : t' = s + 1 := by omega
    rw [h1, h2]
    exact hr⟩, h⟩
end
end Go.Proofs.Ytapojpjmeadabaa.FS
end

section
/- codec.Cut. -/
namespace Go.Proofs.Ytapojpjmeadabaa
open Go.RowKit
set_option linter.unusedVariables false
set_option linter.unusedSimpArgs false
attribute [local go_sem] lt_ext cell?_ext frozen?_ext shape?_ext

theorem run_slice_every {t e : TypeId} {z : Value} {sz bytes : Nat} (E : EI t e z sz bytes) {w : World} {v : Value} {n : Nat} {xs : List Value} (h : Rd w sz v n xs)
    (lo hi : Option Value) (l k : Nat) (hlo : lo = none ∧ l = 0 ∨ lo = some (.int .i64 (l : Int))) (hhi : hi = none ∧ k = n ∨ hi = some (.int .i64 (k : Int))) (hlk : l ≤ k) (hk : k ≤ n) :
    ∃ v', (∀ w1, (Instr.slice t v lo hi none).run Try.prog w1 = .ok v' w1) ∧ Rd w sz v' (k - l) ((xs.take (k * sz)).drop (l * sz)) := by
  obtain ⟨A, cap, rfl, h1, h2, h3, h4⟩ := h.is
  refine ⟨_, fun w1 => ?_, h.sub hlk hk⟩
  have hb : ∀ (m : Nat) (c : BoundsCode) (y : Nat), m ≤ y → (Instr.sliceBound (.int .i64 (m : Int)) y c).run Try.prog w1 = .ok m w1 := by
    intro m c y hm
    simp [Instr.sliceBound, asIntOf]
    intro h
    omega
  have hbs : (Instr.sliceBounds true n cap lo hi none).run Try.prog w1 = .ok (l, k, cap) w1 := by
    have hkc : k ≤ cap := by omega
    unfold Instr.sliceBounds
    rcases hlo with ⟨rfl, rfl⟩ | rfl <;> rcases hhi with ⟨rfl, rfl⟩ | rfl <;> simp [Sem.run_bind, hb, hlk, hk, hkc, h1]
  simp [Instr.slice, Sem.run_bind, run_underlying E.t, hbs, E.size]
theorem exec_slice_every {t e : TypeId} (ht : Try.prog.underlying t = some (.slice e)) {o : Oper} {ρ : Operand → Value} (x : Operand) (lo hi : Option Operand) (ho : o.op = .slice t x lo hi none) (v v' : Value) (hx : ρ x = v) (L H : Option Value) (hL : lo.map ρ = L) (hH : hi.map ρ = H)
    (hall : ∀ w1, (Instr.slice t v L H none).run Try.prog w1 = .ok v' w1) (w1 : World) : (execOp ρ o).run Try.prog w1 = .ok (.value v') w1 := by
  have hr' : (Instr.sliceAt t v L H none).run Try.prog w1 = .ok v' w1 := by rw [← hall w1]; simp [Instr.sliceAt, run_underlying ht]
  unfold execOp
  simp only [ho, hx, hL, hH, Option.map_none, Sem.run_bind, hr', Result.andThen_ok, Sem.run_pure]
theorem exec_append {t : TypeId} {o : Oper} {ρ : Operand → Value} (s x : Operand) (ho : o.op = .call { callee := .builtin .append, args := #[s, x], argTypes := #[t, t] }) (v y : Value) (hs : ρ s = v) (hx : ρ x = y) {w w' : World} {v' : Value}
    (hr : (Builtin.append_ #[t, t] o.type #[v, y]).run Try.prog w = .ok v' w') : (execOp ρ o).run Try.prog w = .ok (.value v') w' := by
  unfold execOp
  simp only [ho, resolve, invoke, builtin, Sem.run_bind, Sem.run_pure, Result.andThen_ok, List.map_toArray, List.map_cons, List.map_nil, hs, hx, hr]

/-! ### A slice of byte slices that is one's own. -/
theorem Own.block {w : World} {e : TypeId} {sz n g : Nat} {v : Value} {xs : List Value} (h : Own w e sz v n xs) (hv : v.ownBlock = some g) : ∃ cur fr, w.heap[g]? = some (.cells cur e fr) := by
  obtain ⟨hl, h2⟩ := h
  rcases h2 with ⟨rfl, rfl⟩ | ⟨g', cap, cur, rfl, _, hg', _⟩
  · cases hv
  · injection hv with e1
    subst e1
    exact ⟨cur, _, hg'⟩
structure NewS (q : Bool) (w0 : World) (v : Value) (vs : List Value) (ls : List (List UInt8)) (w : World) : Prop where
  own : Own w 23 1 v ls.length vs
  ext : Ext w0 w
  fr : ∀ g, v.ownBlock = some g → w0.heap.size ≤ g
  each : ∀ i, i < ls.length → ∃ u, vs[i]? = some u ∧ (OwnB w u (ls.getD i []) ∨ q = true ∧ Bs w0 u (ls.getD i []))
theorem NewS.nil {q : Bool} {w0 w : World} (h : Ext w0 w) : NewS q w0 (.slice none 0 0) [] [] w := ⟨Own.nil _ _ _, h, (fun g hg => nomatch hg), fun i hi => absurd hi (Nat.not_lt_zero _)⟩
theorem NewS.grow {q : Bool} {w0 w w' : World} {v : Value} {vs : List Value} {ls : List (List UInt8)} (h : NewS q w0 v vs ls w) (hx : Ext w w') : NewS q w0 v vs ls w' :=
  ⟨h.own.ext hx, h.ext.trans hx, h.fr, fun i hi => by
    obtain ⟨u, h1, h2⟩ := h.each i hi
    exact ⟨u, h1, h2.imp (fun k => Own.ext k hx) id⟩⟩
theorem NewS.rss {q : Bool} {w0 w : World} {v : Value} {vs : List Value} {ls : List (List UInt8)} (h : NewS q w0 v vs ls w) : Rss w v vs ls :=
  ⟨Own.rd h.own, fun i hi => by
    obtain ⟨u, h1, h2⟩ := h.each i hi
    exact ⟨u, h1, h2.elim (fun k => Own.rd k) (fun k => Rd.ext k.2 h.ext)⟩⟩
theorem NewS.len {q : Bool} {w0 w : World} {v : Value} {vs : List Value} {ls : List (List UInt8)} (h : NewS q w0 v vs ls w) : vs.length = ls.length := by
  have := h.own.1
  simpa using this
theorem NewS.app {q : Bool} {w0 w1 w2 : World} {v v' u : Value} {vs : List Value} {ls : List (List UInt8)} {l : List UInt8} (h : NewS q w0 v vs ls w1) (hu : OwnB w1 u l ∨ q = true ∧ Bs w0 u l) (ho : Own w2 23 1 v' (ls.length + 1) (vs ++ [u])) (hg : Grew w1 w2 v)
    (hf : v'.ownBlock = v.ownBlock ∨ ∀ g, v'.ownBlock = some g → w1.heap.size ≤ g) : NewS q w0 v' (vs ++ [u]) (ls ++ [l]) w2 := by
  have hl := h.len
  have hk : ∀ (x : Value) (m : List UInt8), OwnB w1 x m → OwnB w2 x m := fun x m hx => Own.chg hx (Chg.of_grew hg) (fun g hxg e => by
    obtain ⟨cur, fr, hb⟩ := Own.block hx hxg
    exact h.own.not_block hb (by decide) e.symm)
  refine ⟨by rw [List.length_append]; exact ho, ?_, fun g hv => ?_, fun i hi => ?_⟩
  · exact (Chg.trans (Chg.of_ext h.ext (fun k => some k = v.ownBlock)) (Chg.of_grew hg) (fun k _ hk => hk)).ext fun k hk => h.fr k hk.symm
  · rcases hf with e | e
    · exact h.fr g (e ▸ hv)
    · exact Nat.le_trans h.ext.size (e g hv)
  · rw [List.length_append, List.length_singleton] at hi
    by_cases hlt : i < ls.length
    · obtain ⟨x, h1, h2⟩ := h.each i hlt
      refine ⟨x, by rw [List.getElem?_append_left (by omega)]; exact h1, ?_⟩
      have e : (ls ++ [l]).getD i [] = ls.getD i [] := by simp only [List.getD_eq_getElem?_getD]; rw [List.getElem?_append_left hlt]
      rw [e]
      exact h2.imp (hk _ _) id
    · obtain rfl : i = ls.length := by omega
      refine ⟨u, by rw [List.getElem?_append_right (by omega), hl]; simp, ?_⟩
      have e : (ls ++ [l]).getD ls.length [] = l := by simp
      rw [e]
      exact hu.imp (hk _ _) id

/-! ### Fields. -/
def cutL : List UInt8 → List Nat → List (List UInt8)
  | _, [] => []
  | b, n :: r => b.take n :: cutL (b.drop n) r
theorem cutL_length : ∀ (ns : List Nat) (b : List UInt8), (cutL b ns).length = ns.length
  | [], _ => rfl
  | n :: r, b => by simp [cutL, cutL_length r]
theorem cutL_snoc : ∀ (ns : List Nat) (b : List UInt8) (n : Nat), cutL b (ns ++ [n]) = cutL b ns ++ [(b.drop ns.sum).take n]
  | [], b, n => by simp [cutL]
  | m :: r, b, n => by simp [cutL, cutL_snoc r, List.drop_drop]
theorem take_sum_le (ns : List Nat) (k : Nat) : (ns.take k).sum ≤ ns.sum := by
  conv => rhs; rw [← List.take_append_drop k ns]
  rw [List.sum_append]
  omega
theorem take_succ_getD (ns : List Nat) (k : Nat) (hk : k < ns.length) : ns.take (k + 1) = ns.take k ++ [ns.getD k 0] := by
  rw [List.take_add_one, List.getD_eq_getElem?_getD, List.getElem?_eq_getElem hk]
  simp
abbrev Is (w : World) (v : Value) (ns : List Nat) : Prop := Rd w 1 v ns.length (ns.map fun n : Nat => Value.int .i64 (n : Int))

set_option maxRecDepth 100000 in
set_option maxHeartbeats 2000000 in
theorem cut_ok (bv wv : Value) (b : List UInt8) (ns : List Nat) (w : World) (hB : Bs w bv b) (hW : Is w wv ns) (hb : b.length ≤ 2147483648) (hnl : ns.length ≤ 2147483648) (hns : ∀ n ∈ ns, n ≤ 2147483648) (hsum : ns.sum = b.length) :
    Calls Try.prog 106 #[bv, wv] w fun e w' => ∃ v vs, e = .returned (.tuple #[v, .int .i64 0]) ∧ NewS false w v vs (cutL b ns) w' := by
  obtain ⟨Ab, cb, rfl, _, _, _, _⟩ := hB.is
  obtain ⟨Aw, cw, rfl, _, _, _, _⟩ := hW.is
  have HB := Lib.hid hB
  have HW := Lib.hid hW
  have HNS := Lib.hid hns
  clear hB hW hns
  go_enter Try.func106, Try.ntmps106
  go_wp2
  go_step3
  go_wp2
  go_step3
  go_wp2
  go_loopw [12, 0, 6, 7] (fun i r v er wr => ∃ (k : Nat) (vs : List Value), k ≤ ns.length ∧ i = .int .i64 k ∧ er = .int .i64 0 ∧ (ns.take k).sum ≤ b.length ∧ Bs w r (b.drop (ns.take k).sum) ∧ NewS false w v vs (cutL b (ns.take k)) wr) (fun i _ _ _ _ => ns.length - (intOf i).toNat)
  case atStart => exact ⟨0, [], by omega, rfl, rfl, by simp, by simpa using HB.out, by simpa [cutL] using NewS.nil (Ext.refl w)⟩
  case round =>
    obtain ⟨k, vs, hk, rfl, rfl, hsl, hr, hnew⟩ := hrel
    obtain ⟨v, hv0, hnew⟩ : ∃ v, v = _ ∧ NewS false w v vs (cutL b (ns.take k)) wr := ⟨_, rfl, hnew⟩
    subst hv0
    by_cases hlt : k < ns.length
    · have hgk : (ns.getD k 0) ≤ 2147483648 := by
        have : ns.getD k 0 = ns[k] := by simp [List.getD, hlt]
        rw [this]; exact HNS.out _ (List.getElem_mem hlt)
      have hts := take_succ_getD ns k hlt
      have hcs := cutL_snoc (ns.take k) b (ns.getD k 0)
      have hsm : (ns.take (k + 1)).sum = (ns.take k).sum + ns.getD k 0 := by rw [hts]; simp
      have hle2 := take_sum_le ns (k + 1)
      rw [← hts] at hcs
      obtain ⟨bb, o, cap', hA, _, _, hbl, hcell⟩ := HW.out.pos (by omega)
      injection hA with hA1 hA2 hA3
      subst hA1
      subst hA3
      have hck := (hnew.ext.cell bb (o + k) hbl).trans (hcell k (.int .i64 ((ns.getD k 0 : Nat) : Int)) (by rw [List.getElem?_map, List.getD_eq_getElem?_getD, List.getElem?_eq_getElem hlt]; rfl))
      obtain ⟨n, hn⟩ : ∃ n, ns.getD k 0 = n := ⟨_, rfl⟩
      obtain ⟨rl, hrl⟩ : ∃ rl, b.drop (ns.take k).sum = rl := ⟨_, rfl⟩
      have hrll : rl.length = b.length - (ns.take k).sum := by rw [← hrl]; simp
      rw [hrl] at hr hcs
      have hdr : b.drop (ns.take (k + 1)).sum = rl.drop n := by rw [hsm, ← hrl, List.drop_drop, hn]
      rw [hn] at hgk hck hcs hsm
      have HR := Lib.hid hr
      have HN := Lib.hid hnew
      have HCS := Lib.hid hcs
      have HDR := Lib.hid hdr
      have hn0 : ¬ ((n : Int) < 0) := by omega
      obtain ⟨Ar, cr, er, _, hcrm, _, _⟩ := hr.is
      subst er
      unfold maxLen at hcrm
      obtain ⟨S, hS⟩ : ∃ S, (ns.take k).sum = S := ⟨_, rfl⟩
      rw [hS] at hsm hrll hsl
      have HSM := Lib.hid hsm
      clear hr hnew hts hcs hcell hrl hdr hn hS hsm
      · skip
        have hnr : n ≤ rl.length := by have := HSM.out; omega
        obtain ⟨V, hV, hrd⟩ := run_slice_every ei23 HR.out none (some (.int .i64 (n : Int))) 0 n (.inl ⟨rfl, rfl⟩) (.inr rfl) (Nat.zero_le _) hnr
        obtain ⟨V2, hV2, hrd2⟩ := run_slice_every ei23 HR.out (some (.int .i64 (n : Int))) none n rl.length (.inr rfl) (.inl ⟨rfl, rfl⟩) hnr (Nat.le_refl _)
        have hVb : Bs w V (rl.take n) := Bs.of_rd (n := n - 0) (l := rl.take n) (by have := hrd; simp only [Nat.mul_one, Nat.zero_mul, List.drop_zero] at this; rw [← List.map_take] at this; exact this) (by rw [List.length_take]; omega) rfl
        have hVb2 : Bs w V2 (rl.drop n) := Bs.of_rd (n := rl.length - n) (l := rl.drop n) (by have := hrd2; rw [Bs.sub_list, List.take_length] at this; exact this) (by rw [List.length_drop]) rfl
        have hxd : Ext wr wr.drew := (Ext.refl wr).drew
        obtain ⟨v1, w1, hr1, ho1, hg1, hf1⟩ := run_append_rd ei23 23 wr.drew (.slice none 0 0) 0 [] (Own.nil _ _ _) V _ _ (Rd.ext hVb (HN.out.ext.trans hxd)) (one_bytes _) (by rw [List.length_take]; omega)
        have ho1 : OwnB w1 v1 (rl.take n) := by rw [List.nil_append, Nat.zero_add] at ho1; exact ho1
        obtain ⟨A1, m1, c1, e1⟩ : ∃ A m c, v1 = .slice A m c := by
          obtain ⟨_, _, e, _⟩ := (Own.rd ho1).is
          exact ⟨_, _, _, e⟩
        subst e1
        have hx1 : Ext wr w1 := hxd.trans (Grew.ext_nil hg1)
        have hx2 : Ext w1 (w1.alloc (.cells #[.slice A1 m1 c1] 23)) := (Ext.refl w1).alloc _
        have HN2 := HN.out.grow (hx1.trans hx2)
        obtain ⟨v3, w3, hr3, ho3, hg3, hf3⟩ := run_append_rd ei22 22 (w1.alloc (.cells #[.slice A1 m1 c1] 23)) v _ _ HN2.own (.slice (some ⟨w1.heap.size, 0, none⟩) 1 1) 1 [.slice A1 m1 c1] (Rd.lit rfl (by decide) (by decide) (by simp) (fun j u hj => by
          cases j with
          | zero => injection hj with e; subst e; rw [Nat.zero_add, cell_of_row _ _ _ _ _ _ (heap_alloc_last w1 _)]; rfl
          | succ j => cases hj)) (by intro u hu; obtain rfl : u = .slice A1 m1 c1 := by simpa using hu
                                     rfl) (by rw [cutL_length, List.length_take]; omega)
        have hN3 := HN2.app (.inl (Own.ext ho1 hx2)) ho3 hg3 hf3
        rw [← HCS.out] at hN3
        have HN3 := Lib.hid hN3
        have HV := Lib.hid hV
        have HV2 := Lib.hid hV2
        have HR1 := Lib.hid hr1
        have HR3 := Lib.hid hr3
        have HVB2 : Hid (Bs w V2 (b.drop (ns.take (k + 1)).sum)) := Lib.hid (by rw [HDR.out]; exact hVb2)
        clear hN3 hV hV2 hrd hrd2 hVb hVb2 hr1 hr3 ho1 ho3 hg1 hg3 hf1 hf3 hx1 hx2 HN2 hxd
        go_wp2
        refine FS.wp_region_3 4 5 6 (by decide) (by decide) (by decide) (fun s => match s with | 0 => wr.drew | 1 => w1 | 2 => w1.alloc (.cells #[.slice A1 m1 c1] 23) | _ => w3) rfl (by kernel_rfl) (by kernel_rfl) ?_
        try simp only [Act.put, List.setIfInBounds_toArray, List.set_cons_succ, List.set_cons_zero]
        refine FS.sp rfl (by decide) (by decide) (by decide) v (fun _ => by go_simp) ?_
        simp only [Act.put, List.setIfInBounds_toArray, List.set_cons_succ, List.set_cons_zero]
        refine FS.sp rfl (by decide) (by decide) (by decide) (.slice Ar rl.length cr) (fun _ => by go_simp) ?_
        simp only [Act.put, List.setIfInBounds_toArray, List.set_cons_succ, List.set_cons_zero]
        refine FS.sp rfl (by decide) (by decide) (by decide) (.int .i64 (n : Int)) (fun _ => by go_simp) ?_
        simp only [Act.put, List.setIfInBounds_toArray, List.set_cons_succ, List.set_cons_zero]
        refine FS.sp rfl (by decide) (by decide) (by decide) V (exec_slice_every ei23.t (.tmp 23) none (some (.tmp 24)) rfl _ V rfl none (some (.int .i64 (n : Int))) rfl rfl HV.out) ?_
        simp only [Act.put, List.setIfInBounds_toArray, List.set_cons_succ, List.set_cons_zero]
        refine FS.si rfl (by decide) (by decide) (by decide) 0 (by decide) (.slice A1 m1 c1) (exec_append (.const (.slice none 0 0)) (.tmp 25) rfl _ _ rfl rfl HR1.out) ?_
        simp only [Act.put, List.setIfInBounds_toArray, List.set_cons_succ, List.set_cons_zero]
        refine FS.si rfl (by decide) (by decide) (by decide) 1 (by decide) (.slice (some ⟨w1.heap.size, 0, none⟩) 1 1) (by go_simp) ?_
        simp only [Act.put, List.setIfInBounds_toArray, List.set_cons_succ, List.set_cons_zero]
        refine FS.si rfl (by decide) (by decide) (by decide) 2 (by decide) v3 (exec_append (.tmp 22) (.tmp 27) rfl _ _ rfl rfl HR3.out) ?_
        simp only [Act.put, List.setIfInBounds_toArray, List.set_cons_succ, List.set_cons_zero]
        refine FS.sp rfl (by decide) (by decide) (by decide) (.slice Ar rl.length cr) (fun _ => by go_simp) ?_
        simp only [Act.put, List.setIfInBounds_toArray, List.set_cons_succ, List.set_cons_zero]
        refine FS.sp rfl (by decide) (by decide) (by decide) (.int .i64 (n : Int)) (fun _ => by go_simp) ?_
        simp only [Act.put, List.setIfInBounds_toArray, List.set_cons_succ, List.set_cons_zero]
        refine FS.sp rfl (by decide) (by decide) (by decide) V2 (exec_slice_every ei23.t (.tmp 29) (some (.tmp 30)) none rfl _ V2 rfl (some (.int .i64 (n : Int))) none rfl rfl HV2.out) ?_
        simp only [Act.put, List.setIfInBounds_toArray, List.set_cons_succ, List.set_cons_zero]
        refine FS.sp rfl (by decide) (by decide) (by decide) v3 (fun _ => by go_simp) ?_
        simp only [Act.put, List.setIfInBounds_toArray, List.set_cons_succ, List.set_cons_zero]
        refine FS.sp rfl (by decide) (by decide) (by decide) V2 (fun _ => by go_simp) ?_
        simp only [Act.put, List.setIfInBounds_toArray, List.set_cons_succ, List.set_cons_zero]
        simp only [FS.wpS]
        go_wp2
        go_roundw
        case rel => exact ⟨k + 1, _, by omega, by go_num, rfl, by rw [HSM.out]; omega, HVB2.out, HN3.out⟩
        case measure => (simp [intOf] <;> omega)
    · obtain rfl : k = ns.length := by omega
      rw [List.take_length] at hr hnew hsl
      rw [hsum, List.drop_length] at hr
      obtain ⟨Ar, cr, er, _, _, _, _⟩ := hr.is
      subst er
      have HN := Lib.hid hnew
      clear hr hnew
      go_wp2
      rw [Exit.noGoto_ret]
      refine bodyPost_ret (results_tmp2 rfl _ _ _) rfl ?_
      exact ⟨_, _, rfl, HN.out⟩
set_option maxRecDepth 100000 in
set_option maxHeartbeats 2000000 in
theorem cut_bad (bv wv : Value) (b : List UInt8) (ns : List Nat) (w : World) (hB : Bs w bv b) (hW : Is w wv ns) (hb : b.length ≤ 2147483648) (hnl : ns.length ≤ 2147483648) (hns : ∀ n ∈ ns, n ≤ 2147483648) (hsum : ns.sum ≠ b.length) :
    Calls Try.prog 106 #[bv, wv] w fun e w' => ∃ c : Int, c ≠ 0 ∧ e = .returned (.tuple #[.slice none 0 0, .int .i64 c]) ∧ Ext w w' := by
  obtain ⟨Ab, cb, rfl, _, _, _, _⟩ := hB.is
  obtain ⟨Aw, cw, rfl, _, _, _, _⟩ := hW.is
  have HB := Lib.hid hB
  have HW := Lib.hid hW
  have HNS := Lib.hid hns
  clear hB hW hns
  go_enter Try.func106, Try.ntmps106
  go_wp2
  go_step3
  go_wp2
  go_step3
  go_wp2
  go_loopw [12, 0, 6, 7] (fun i r v er wr => ∃ (k : Nat) (vs : List Value), k ≤ ns.length ∧ i = .int .i64 k ∧ er = .int .i64 0 ∧ (ns.take k).sum ≤ b.length ∧ Bs w r (b.drop (ns.take k).sum) ∧ NewS false w v vs (cutL b (ns.take k)) wr) (fun i _ _ _ _ => ns.length - (intOf i).toNat)
  case atStart => exact ⟨0, [], by omega, rfl, rfl, by simp, by simpa using HB.out, by simpa [cutL] using NewS.nil (Ext.refl w)⟩
  case round =>
    obtain ⟨k, vs, hk, rfl, rfl, hsl, hr, hnew⟩ := hrel
    obtain ⟨v, hv0, hnew⟩ : ∃ v, v = _ ∧ NewS false w v vs (cutL b (ns.take k)) wr := ⟨_, rfl, hnew⟩
    subst hv0
    by_cases hlt : k < ns.length
    · have hgk : (ns.getD k 0) ≤ 2147483648 := by
        have : ns.getD k 0 = ns[k] := by simp [List.getD, hlt]
        rw [this]; exact HNS.out _ (List.getElem_mem hlt)
      have hts := take_succ_getD ns k hlt
      have hcs := cutL_snoc (ns.take k) b (ns.getD k 0)
      have hsm : (ns.take (k + 1)).sum = (ns.take k).sum + ns.getD k 0 := by rw [hts]; simp
      have hle2 := take_sum_le ns (k + 1)
      rw [← hts] at hcs
      obtain ⟨bb, o, cap', hA, _, _, hbl, hcell⟩ := HW.out.pos (by omega)
      injection hA with hA1 hA2 hA3
      subst hA1
      subst hA3
      have hck := (hnew.ext.cell bb (o + k) hbl).trans (hcell k (.int .i64 ((ns.getD k 0 : Nat) : Int)) (by rw [List.getElem?_map, List.getD_eq_getElem?_getD, List.getElem?_eq_getElem hlt]; rfl))
      obtain ⟨n, hn⟩ : ∃ n, ns.getD k 0 = n := ⟨_, rfl⟩
      obtain ⟨rl, hrl⟩ : ∃ rl, b.drop (ns.take k).sum = rl := ⟨_, rfl⟩
      have hrll : rl.length = b.length - (ns.take k).sum := by rw [← hrl]; simp
      rw [hrl] at hr hcs
      have hdr : b.drop (ns.take (k + 1)).sum = rl.drop n := by rw [hsm, ← hrl, List.drop_drop, hn]
      rw [hn] at hgk hck hcs hsm
      have HR := Lib.hid hr
      have HN := Lib.hid hnew
      have HCS := Lib.hid hcs
      have HDR := Lib.hid hdr
      have hn0 : ¬ ((n : Int) < 0) := by omega
      obtain ⟨Ar, cr, er, _, hcrm, _, _⟩ := hr.is
      subst er
      unfold maxLen at hcrm
      obtain ⟨S, hS⟩ : ∃ S, (ns.take k).sum = S := ⟨_, rfl⟩
      rw [hS] at hsm hrll hsl
      have HSM := Lib.hid hsm
      clear hr hnew hts hcs hcell hrl hdr hn hS hsm
      · have HSM2 := HSM.out
        by_cases hbig : n ≤ rl.length
        · skip
          have hnr := hbig
          obtain ⟨V, hV, hrd⟩ := run_slice_every ei23 HR.out none (some (.int .i64 (n : Int))) 0 n (.inl ⟨rfl, rfl⟩) (.inr rfl) (Nat.zero_le _) hnr
          obtain ⟨V2, hV2, hrd2⟩ := run_slice_every ei23 HR.out (some (.int .i64 (n : Int))) none n rl.length (.inr rfl) (.inl ⟨rfl, rfl⟩) hnr (Nat.le_refl _)
          have hVb : Bs w V (rl.take n) := Bs.of_rd (n := n - 0) (l := rl.take n) (by have := hrd; simp only [Nat.mul_one, Nat.zero_mul, List.drop_zero] at this; rw [← List.map_take] at this; exact this) (by rw [List.length_take]; omega) rfl
          have hVb2 : Bs w V2 (rl.drop n) := Bs.of_rd (n := rl.length - n) (l := rl.drop n) (by have := hrd2; rw [Bs.sub_list, List.take_length] at this; exact this) (by rw [List.length_drop]) rfl
          have hxd : Ext wr wr.drew := (Ext.refl wr).drew
          obtain ⟨v1, w1, hr1, ho1, hg1, hf1⟩ := run_append_rd ei23 23 wr.drew (.slice none 0 0) 0 [] (Own.nil _ _ _) V _ _ (Rd.ext hVb (HN.out.ext.trans hxd)) (one_bytes _) (by rw [List.length_take]; omega)
          have ho1 : OwnB w1 v1 (rl.take n) := by rw [List.nil_append, Nat.zero_add] at ho1; exact ho1
          obtain ⟨A1, m1, c1, e1⟩ : ∃ A m c, v1 = .slice A m c := by
            obtain ⟨_, _, e, _⟩ := (Own.rd ho1).is
            exact ⟨_, _, _, e⟩
          subst e1
          have hx1 : Ext wr w1 := hxd.trans (Grew.ext_nil hg1)
          have hx2 : Ext w1 (w1.alloc (.cells #[.slice A1 m1 c1] 23)) := (Ext.refl w1).alloc _
          have HN2 := HN.out.grow (hx1.trans hx2)
          obtain ⟨v3, w3, hr3, ho3, hg3, hf3⟩ := run_append_rd ei22 22 (w1.alloc (.cells #[.slice A1 m1 c1] 23)) v _ _ HN2.own (.slice (some ⟨w1.heap.size, 0, none⟩) 1 1) 1 [.slice A1 m1 c1] (Rd.lit rfl (by decide) (by decide) (by simp) (fun j u hj => by
            cases j with
            | zero => injection hj with e; subst e; rw [Nat.zero_add, cell_of_row _ _ _ _ _ _ (heap_alloc_last w1 _)]; rfl
            | succ j => cases hj)) (by intro u hu; obtain rfl : u = .slice A1 m1 c1 := by simpa using hu
                                       rfl) (by rw [cutL_length, List.length_take]; omega)
          have hN3 := HN2.app (.inl (Own.ext ho1 hx2)) ho3 hg3 hf3
          rw [← HCS.out] at hN3
          have HN3 := Lib.hid hN3
          have HV := Lib.hid hV
          have HV2 := Lib.hid hV2
          have HR1 := Lib.hid hr1
          have HR3 := Lib.hid hr3
          have HVB2 : Hid (Bs w V2 (b.drop (ns.take (k + 1)).sum)) := Lib.hid (by rw [HDR.out]; exact hVb2)
          clear hN3 hV hV2 hrd hrd2 hVb hVb2 hr1 hr3 ho1 ho3 hg1 hg3 hf1 hf3 hx1 hx2 HN2 hxd
          go_wp2
          refine FS.wp_region_3 4 5 6 (by decide) (by decide) (by decide) (fun s => match s with | 0 => wr.drew | 1 => w1 | 2 => w1.alloc (.cells #[.slice A1 m1 c1] 23) | _ => w3) rfl (by kernel_rfl) (by kernel_rfl) ?_
          try simp only [Act.put, List.setIfInBounds_toArray, List.set_cons_succ, List.set_cons_zero]
          refine FS.sp rfl (by decide) (by decide) (by decide) v (fun _ => by go_simp) ?_
          simp only [Act.put, List.setIfInBounds_toArray, List.set_cons_succ, List.set_cons_zero]
          refine FS.sp rfl (by decide) (by decide) (by decide) (.slice Ar rl.length cr) (fun _ => by go_simp) ?_
          simp only [Act.put, List.setIfInBounds_toArray, List.set_cons_succ, List.set_cons_zero]
          refine FS.sp rfl (by decide) (by decide) (by decide) (.int .i64 (n : Int)) (fun _ => by go_simp) ?_
          simp only [Act.put, List.setIfInBounds_toArray, List.set_cons_succ, List.set_cons_zero]
          refine FS.sp rfl (by decide) (by decide) (by decide) V (exec_slice_every ei23.t (.tmp 23) none (some (.tmp 24)) rfl _ V rfl none (some (.int .i64 (n : Int))) rfl rfl HV.out) ?_
          simp only [Act.put, List.setIfInBounds_toArray, List.set_cons_succ, List.set_cons_zero]
          refine FS.si rfl (by decide) (by decide) (by decide) 0 (by decide) (.slice A1 m1 c1) (exec_append (.const (.slice none 0 0)) (.tmp 25) rfl _ _ rfl rfl HR1.out) ?_
          simp only [Act.put, List.setIfInBounds_toArray, List.set_cons_succ, List.set_cons_zero]
          refine FS.si rfl (by decide) (by decide) (by decide) 1 (by decide) (.slice (some ⟨w1.heap.size, 0, none⟩) 1 1) (by go_simp) ?_
          simp only [Act.put, List.setIfInBounds_toArray, List.set_cons_succ, List.set_cons_zero]
          refine FS.si rfl (by decide) (by decide) (by decide) 2 (by decide) v3 (exec_append (.tmp 22) (.tmp 27) rfl _ _ rfl rfl HR3.out) ?_
          simp only [Act.put, List.setIfInBounds_toArray, List.set_cons_succ, List.set_cons_zero]
          refine FS.sp rfl (by decide) (by decide) (by decide) (.slice Ar rl.length cr) (fun _ => by go_simp) ?_
          simp only [Act.put, List.setIfInBounds_toArray, List.set_cons_succ, List.set_cons_zero]
          refine FS.sp rfl (by decide) (by decide) (by decide) (.int .i64 (n : Int)) (fun _ => by go_simp) ?_
          simp only [Act.put, List.setIfInBounds_toArray, List.set_cons_succ, List.set_cons_zero]
          refine FS.sp rfl (by decide) (by decide) (by decide) V2 (exec_slice_every ei23.t (.tmp 29) (some (.tmp 30)) none rfl _ V2 rfl (some (.int .i64 (n : Int))) none rfl rfl HV2.out) ?_
          simp only [Act.put, List.setIfInBounds_toArray, List.set_cons_succ, List.set_cons_zero]
          refine FS.sp rfl (by decide) (by decide) (by decide) v3 (fun _ => by go_simp) ?_
          simp only [Act.put, List.setIfInBounds_toArray, List.set_cons_succ, List.set_cons_zero]
          refine FS.sp rfl (by decide) (by decide) (by decide) V2 (fun _ => by go_simp) ?_
          simp only [Act.put, List.setIfInBounds_toArray, List.set_cons_succ, List.set_cons_zero]
          simp only [FS.wpS]
          go_wp2
          go_roundw
          case rel => exact ⟨k + 1, _, by omega, by go_num, rfl, by rw [HSM.out]; omega, HVB2.out, HN3.out⟩
          case measure => (simp [intOf] <;> omega)
        · clear HSM2
          have hx := HN.out.ext
          go_wp2
          refine bodyPost_ret (results_tmp2 rfl _ _ _) rfl ?_
          exact ⟨3, by decide, rfl, hx⟩
    · obtain rfl : k = ns.length := by omega
      rw [List.take_length] at hr hnew hsl
      obtain ⟨rl, hrl⟩ : ∃ rl, b.drop ns.sum = rl := ⟨_, rfl⟩
      have hrll : 0 < rl.length := by rw [← hrl, List.length_drop]; exact Nat.sub_pos_of_lt (Nat.lt_of_le_of_ne hsl hsum)
      rw [hrl] at hr
      obtain ⟨Ar, cr, er, _, _, _, _⟩ := hr.is
      subst er
      have hx := hnew.ext
      clear hr hnew hrl
      go_wp2
      rw [Exit.noGoto_ret]
      refine bodyPost_ret (results_tmp2 rfl _ _ _) rfl ?_
      exact ⟨4, by decide, rfl, hx⟩
end Go.Proofs.Ytapojpjmeadabaa
end

section
/- seal.Decode, where the bytes are too few, or the tag or the magic is another one. -/
namespace Go.Proofs.Ytapojpjmeadabaa
open Go.RowKit
set_option linter.unusedVariables false
set_option linter.unusedSimpArgs false
attribute [local go_sem] lt_ext cell?_ext frozen?_ext shape?_ext

def Z68 : Value := .agg #[.int .u64 0, .int .i64 0, .slice none 0 0, .slice none 0 0]
theorem ret68t {fn : Func} {p u : Tmp} {R : Ending → World → Prop} {a : Act} {w : World} (hr : fn.results = #[.cell p 68, .tmp u]) (g : Nat) (n b s g' c : Value)
    (hp : a.tmps.getD p undef = .pointer (some ⟨g, 0, none⟩)) (hc : a.tmps.getD u undef = c) (hg : w.heap[g]? = some (.cells (row68 n b s g') 68 (0, 0))) (hd : a.defers = []) (hR : R (.returned (.tuple #[.agg (row68 n b s g'), c])) w) : bodyPost Try.prog fn R .ret a w := by
  have h : (results fn a.tmps).run Try.prog w = .ok (.tuple #[.agg (row68 n b s g'), c]) w := by
    rw [results_cell_tmp hr, hp, hc]
    simp [asAddr, run_loadVar_row w g 68 68 (row68 n b s g') (0, 0) _ hg Try.underlying68 rfl (size68 _ _ _ _)]
  exact bodyPost_ret h hd hR
abbrev z68 : Array Value := row68 (.int .u64 0) (.int .i64 0) (.slice none 0 0) (.slice none 0 0)
abbrev At68 (w : World) (g : Nat) (c : Array Value) : Prop := w.heap[g]? = some (.cells c 68 (0, 0))
theorem At68.ext {w w' : World} {g : Nat} {c : Array Value} (h : At68 w g c) (hx : Ext w w') : At68 w' g c := (hx.block (Array.getElem?_eq_some_iff.1 h).1).trans h
theorem At68.lt {w : World} {g : Nat} {c : Array Value} (h : At68 w g c) : g < w.heap.size := (Array.getElem?_eq_some_iff.1 h).1
set_option maxRecDepth 100000 in
set_option maxHeartbeats 1000000 in
theorem decode_short (kv bv : Value) (b : List UInt8) (w : World) (hB : Bs w bv b) (hb : b.length < 48) :
    Calls Try.prog 68 #[kv, bv] w fun e w' => e = .returned (.tuple #[Z68, .int .i64 5]) ∧ Ext w w' := by
  obtain ⟨Ab, cb, rfl, _, _, _, _⟩ := hB.is
  clear hB
  have hd : decide ((b.length : Int) < 48) = true := decide_eq_true (by omega)
  go_enter Try.func68, Try.ntmps68
  go_wp2
  have hx0 : Ext w (w.alloc (.cells #[.int .u64 0, .int .i64 0, .slice none 0 0, .slice none 0 0] 68)) := (Ext.refl w).alloc _
  have hb0 : At68 (w.alloc (.cells #[.int .u64 0, .int .i64 0, .slice none 0 0, .slice none 0 0] 68)) w.heap.size z68 := heap_alloc_last w _
  generalize w.alloc (.cells #[.int .u64 0, .int .i64 0, .slice none 0 0, .slice none 0 0] 68) = W1 at *
  have HX1 := Lib.hid hx0
  have HB1 := Lib.hid hb0
  have hs1 := hb0.lt
  clear hx0 hb0
  refine wp_region_m (by kernel_rfl) (by kernel_rfl) ?_; try simp only [Act.put, List.setIfInBounds_toArray, List.set_cons_succ, List.set_cons_zero]
  repeat (first | (refine gq rfl rfl rfl rfl (fun K hK => ?_); go_big_quiet_op; refine hK _ ?_; clear hK K; try simp only [hd]) | (refine gskip rfl rfl rfl rfl ?_; simp only [Act.put, List.setIfInBounds_toArray, List.set_cons_succ, List.set_cons_zero]))
  refine gm_end_at rfl [] rfl (fun xs y hk => ?_)
  clear hk
  simp only [fillM, Act.put, List.setIfInBounds_toArray, List.set_cons_succ, List.set_cons_zero]
  go_wp2_with (refine wpl_store68 rfl _ _ rfl w.heap.size (.int .u64 0) (.int .i64 0) (.slice none 0 0) (.slice none 0 0) (.int .u64 0) (.int .i64 0) (.slice none 0 0) (.slice none 0 0) rfl rfl (by simp [row68, Value.oneCell']) (HB1.out.ext (ext_ext _ y)) ?_; intro wz hz huz; have HZ := Lib.hid hz; have HUZ := Lib.hid huz; clear hz huz)
  exact ret68t rfl w.heap.size _ _ _ _ _ rfl rfl HZ.out rfl ⟨rfl, (HX1.out.trans (ext_ext _ y)).upd_new HUZ.out (Nat.le_refl _)⟩
set_option maxRecDepth 100000 in
set_option maxHeartbeats 2000000 in
theorem decode_tag (kv bv : Value) (key b : List UInt8) (w : World) (hB : Bs w bv b) (hK : Bs w kv key) (hk0 : key.length ≤ 2147483648) (h48 : 48 ≤ b.length) (hb : b.length ≤ 1073741824) (hq : decide (Sha.tag key (fbody b) = ftag b) = false) :
    Calls Try.prog 68 #[kv, bv] w fun e w' => e = .returned (.tuple #[Z68, .int .i64 5]) ∧ Ext w w' := by
  obtain ⟨Ab, cb, e0, _, _, _, _⟩ := hB.is
  obtain ⟨M, hM⟩ : ∃ M, b.length = M + 32 := ⟨b.length - 32, by omega⟩
  have hM16 : 16 ≤ M := by omega
  have hMb : M ≤ 2147483648 := by omega
  rw [hM] at e0
  subst e0
  have hd : decide ((M : Int) + 32 < 48) = false := decide_eq_false (by omega)
  obtain ⟨V21, hV21, hr21⟩ := run_slice_every ei23 hB (some (.int .i64 (M : Int))) none M b.length (.inr rfl) (.inl ⟨rfl, rfl⟩) (by omega) (Nat.le_refl _)
  obtain ⟨V26, hV26, hr26⟩ := run_slice_every ei23 hB none (some (.int .i64 (M : Int))) 0 M (.inl ⟨rfl, rfl⟩) (.inr rfl) (Nat.zero_le _) (by omega)
  obtain ⟨V33, hV33, hr33⟩ := run_slice_every ei23 hB none (some (.int .i64 ((4 : Nat) : Int))) 0 4 (.inl ⟨rfl, rfl⟩) (.inr rfl) (Nat.zero_le _) (by omega)
  have hT : Bs w V21 (ftag b) := Bs.of_rd (n := b.length - M) (l := b.drop M) (by have := hr21; rw [Bs.sub_list, List.take_length] at this; exact this) (by unfold ftag; rw [List.length_drop]; omega) (by unfold ftag; rw [hM, Nat.add_sub_cancel])
  have hO : Bs w V26 (fbody b) := Bs.of_rd (n := M - 0) (l := b.take M) (by have := hr26; simp only [Nat.mul_one, Nat.zero_mul, List.drop_zero] at this; rw [← List.map_take] at this; exact this) (by unfold fbody; rw [List.length_take]; omega) (by unfold fbody; rw [hM, Nat.add_sub_cancel])
  have hQ : Bs w V33 (b.take 4) := Bs.of_rd (n := 4 - 0) (l := b.take 4) (by have := hr33; simp only [Nat.mul_one, Nat.zero_mul, List.drop_zero] at this; rw [← List.map_take] at this; exact this) (by rw [List.length_take]; omega) rfl
  have hOl : (fbody b).length ≤ 1073741824 := by unfold fbody; rw [List.length_take]; omega
  obtain ⟨T1, hT1⟩ : ∃ T1, ftag b = T1 := ⟨_, rfl⟩
  obtain ⟨O1, hO1⟩ : ∃ O1, fbody b = O1 := ⟨_, rfl⟩
  obtain ⟨Q1, hQ1⟩ : ∃ Q1, b.take 4 = Q1 := ⟨_, rfl⟩
  rw [hT1] at hT
  rw [hO1] at hO hOl
  rw [hQ1] at hQ
  obtain ⟨A26, n26, c26, e26⟩ : ∃ A n c, V26 = .slice A n c := by
    obtain ⟨_, _, e, _⟩ := hO.is
    exact ⟨_, _, _, e⟩
  subst e26
  have HT := Lib.hid hT
  have HO := Lib.hid hO
  have HQ := Lib.hid hQ
  have HV21 := Lib.hid hV21
  have HV26 := Lib.hid hV26
  have HV33 := Lib.hid hV33
  have HK := Lib.hid hK
  have HT1 := Lib.hid hT1
  have HO1 := Lib.hid hO1
  have HQ1 := Lib.hid hQ1
  have HBB : Hid (Bs w (.slice Ab (M + 32) cb) b) := Lib.hid hB
  have HM := Lib.hid hM
  clear hB hr21 hr26 hr33 hT hO hQ hV21 hV26 hV33 hK hT1 hO1 hQ1 hM
  have HQQ : Hid (decide (Sha.tag key O1 = T1) = false) := Lib.hid (by rw [← HO1.out, ← HT1.out]; exact hq)
  clear hq
  go_enter Try.func68, Try.ntmps68
  go_wp2
  have hx0 : Ext w (w.alloc (.cells #[.int .u64 0, .int .i64 0, .slice none 0 0, .slice none 0 0] 68)) := (Ext.refl w).alloc _
  have hb0 : At68 (w.alloc (.cells #[.int .u64 0, .int .i64 0, .slice none 0 0, .slice none 0 0] 68)) w.heap.size z68 := heap_alloc_last w _
  generalize w.alloc (.cells #[.int .u64 0, .int .i64 0, .slice none 0 0, .slice none 0 0] 68) = W1 at *
  have HX1 := Lib.hid hx0
  have HB1 := Lib.hid hb0
  have hs1 := hb0.lt
  clear hx0 hb0
  refine wp_region_m (by kernel_rfl) (by kernel_rfl) ?_; try simp only [Act.put, List.setIfInBounds_toArray, List.set_cons_succ, List.set_cons_zero]
  refine gq rfl rfl rfl rfl (fun K hK => ?_); go_big_quiet_op; refine hK _ ?_; clear hK K
  refine gq rfl rfl rfl rfl (fun K hK => ?_); go_big_quiet_op; refine hK _ ?_; clear hK K
  refine gq rfl rfl rfl rfl (fun K hK => ?_); go_big_quiet_op; refine hK _ ?_; clear hK K
  try simp only [hd]
  refine gq rfl rfl rfl rfl (fun K hK => ?_); go_big_quiet_op; refine hK _ ?_; clear hK K
  refine gq rfl rfl rfl rfl (fun K hK => ?_); go_big_quiet_op; refine hK _ ?_; clear hK K
  refine gq rfl rfl rfl rfl (fun K hK => ?_); go_big_quiet_op; refine hK _ ?_; clear hK K
  refine gq rfl rfl rfl rfl (fun K hK => ?_); go_big_quiet_op; refine hK _ ?_; clear hK K
  refine gq rfl rfl rfl rfl (fun K hK => ?_); go_big_quiet_op; refine hK _ ?_; clear hK K
  refine gq rfl rfl rfl rfl (fun K hK => ?_); go_big_quiet_op; refine hK _ ?_; clear hK K
  refine ge rfl rfl rfl rfl V21 (exec_slice_every ei23.t (.tmp 17) (some (.tmp 20)) none rfl _ V21 rfl (some (.int .i64 (M : Int))) none rfl rfl HV21.out) ?_
  simp only [Act.put, List.setIfInBounds_toArray, List.set_cons_succ, List.set_cons_zero]
  refine gq rfl rfl rfl rfl (fun K hK => ?_); go_big_quiet_op; refine hK _ ?_; clear hK K
  refine gq rfl rfl rfl rfl (fun K hK => ?_); go_big_quiet_op; refine hK _ ?_; clear hK K
  refine gq rfl rfl rfl rfl (fun K hK => ?_); go_big_quiet_op; refine hK _ ?_; clear hK K
  refine gq rfl rfl rfl rfl (fun K hK => ?_); go_big_quiet_op; refine hK _ ?_; clear hK K
  refine ge rfl rfl rfl rfl (.slice A26 n26 c26) (exec_slice_every ei23.t (.tmp 22) none (some (.tmp 25)) rfl _ _ rfl none (some (.int .i64 (M : Int))) rfl rfl HV26.out) ?_
  simp only [Act.put, List.setIfInBounds_toArray, List.set_cons_succ, List.set_cons_zero]
  refine gv rfl rfl rfl rfl 27 rfl (RssR [O1]) RssR.ext (fun x => ⟨_, _, by go_simp <;> first | exact ⟨rfl, rfl⟩ | rfl, ⟨_, Rss.one _ _ O1 (Rd.ext HO.out (HX1.out.trans (ext_ext _ x)))⟩, (Ext.refl _).alloc _⟩) ?_
  simp only [Act.put, List.setIfInBounds_toArray, List.set_cons_succ, List.set_cons_zero]
  refine gcx rfl rfl 48 (fun xs => #[kv, V21, xs 27]) (.bool false) (fun xs => rfl) (fun xs w => by simp only [fillM, Act.put, List.setIfInBounds_toArray, List.set_cons_succ, List.set_cons_zero]; go_simp) (fun xs x hk => by obtain ⟨vs, hu⟩ := hk 27 (by decide) (by simp) _ rfl; have h := check_any O1 _ _ _ key T1 vs [O1] _ (Rd.ext HK.out (HX1.out.trans (ext_ext _ x))) (Rd.ext HT.out (HX1.out.trans (ext_ext _ x))) hu hk0 (Lib.hid (by simp)) hOl; rw [HQQ.out] at h; exact h) ?_
  simp only [Act.put, List.setIfInBounds_toArray, List.set_cons_succ, List.set_cons_zero]
  refine gq rfl rfl rfl rfl (fun K hK => ?_); go_big_quiet_op; refine hK _ ?_; clear hK K
  refine gq rfl rfl rfl rfl (fun K hK => ?_); go_big_quiet_op; refine hK _ ?_; clear hK K
  refine gq rfl rfl rfl rfl (fun K hK => ?_); go_big_quiet_op; refine hK _ ?_; clear hK K
  refine gskip rfl rfl rfl rfl ?_
  simp only [Act.put, List.setIfInBounds_toArray, List.set_cons_succ, List.set_cons_zero]
  refine gskip rfl rfl rfl rfl ?_
  simp only [Act.put, List.setIfInBounds_toArray, List.set_cons_succ, List.set_cons_zero]
  refine gskip rfl rfl rfl rfl ?_
  simp only [Act.put, List.setIfInBounds_toArray, List.set_cons_succ, List.set_cons_zero]
  refine gskip rfl rfl rfl rfl ?_
  simp only [Act.put, List.setIfInBounds_toArray, List.set_cons_succ, List.set_cons_zero]
  refine gq rfl rfl rfl rfl (fun K hK => ?_); go_big_quiet_op; refine hK _ ?_; clear hK K
  refine gm_end_at rfl [(27, RssR [O1])] rfl (fun xs y hk => ?_)
  clear hk
  simp only [fillM, Act.put, List.setIfInBounds_toArray, List.set_cons_succ, List.set_cons_zero]
  go_wp2_with (refine wpl_store68 rfl _ _ rfl w.heap.size (.int .u64 0) (.int .i64 0) (.slice none 0 0) (.slice none 0 0) (.int .u64 0) (.int .i64 0) (.slice none 0 0) (.slice none 0 0) rfl rfl (by simp [row68, Value.oneCell']) (HB1.out.ext (ext_ext _ y)) ?_; intro wz hz huz; have HZ := Lib.hid hz; have HUZ := Lib.hid huz; clear hz huz)
  exact ret68t rfl w.heap.size _ _ _ _ _ rfl rfl HZ.out rfl ⟨rfl, (HX1.out.trans (ext_ext _ y)).upd_new HUZ.out (Nat.le_refl _)⟩
set_option maxRecDepth 100000 in
set_option maxHeartbeats 2000000 in
theorem decode_magic (kv bv : Value) (key b : List UInt8) (w : World) (hB : Bs w bv b) (hK : Bs w kv key) (hk0 : key.length ≤ 2147483648) (h48 : 48 ≤ b.length) (hb : b.length ≤ 1073741824) (hq : decide (Sha.tag key (fbody b) = ftag b) = true) (hm : decide (b.take 4 = magicL) = false) :
    Calls Try.prog 68 #[kv, bv] w fun e w' => e = .returned (.tuple #[Z68, .int .i64 5]) ∧ Ext w w' := by
  obtain ⟨Ab, cb, e0, _, _, _, _⟩ := hB.is
  obtain ⟨M, hM⟩ : ∃ M, b.length = M + 32 := ⟨b.length - 32, by omega⟩
  have hM16 : 16 ≤ M := by omega
  have hMb : M ≤ 2147483648 := by omega
  rw [hM] at e0
  subst e0
  have hd : decide ((M : Int) + 32 < 48) = false := decide_eq_false (by omega)
  obtain ⟨V21, hV21, hr21⟩ := run_slice_every ei23 hB (some (.int .i64 (M : Int))) none M b.length (.inr rfl) (.inl ⟨rfl, rfl⟩) (by omega) (Nat.le_refl _)
  obtain ⟨V26, hV26, hr26⟩ := run_slice_every ei23 hB none (some (.int .i64 (M : Int))) 0 M (.inl ⟨rfl, rfl⟩) (.inr rfl) (Nat.zero_le _) (by omega)
  obtain ⟨V33, hV33, hr33⟩ := run_slice_every ei23 hB none (some (.int .i64 ((4 : Nat) : Int))) 0 4 (.inl ⟨rfl, rfl⟩) (.inr rfl) (Nat.zero_le _) (by omega)
  have hT : Bs w V21 (ftag b) := Bs.of_rd (n := b.length - M) (l := b.drop M) (by have := hr21; rw [Bs.sub_list, List.take_length] at this; exact this) (by unfold ftag; rw [List.length_drop]; omega) (by unfold ftag; rw [hM, Nat.add_sub_cancel])
  have hO : Bs w V26 (fbody b) := Bs.of_rd (n := M - 0) (l := b.take M) (by have := hr26; simp only [Nat.mul_one, Nat.zero_mul, List.drop_zero] at this; rw [← List.map_take] at this; exact this) (by unfold fbody; rw [List.length_take]; omega) (by unfold fbody; rw [hM, Nat.add_sub_cancel])
  have hQ : Bs w V33 (b.take 4) := Bs.of_rd (n := 4 - 0) (l := b.take 4) (by have := hr33; simp only [Nat.mul_one, Nat.zero_mul, List.drop_zero] at this; rw [← List.map_take] at this; exact this) (by rw [List.length_take]; omega) rfl
  have hOl : (fbody b).length ≤ 1073741824 := by unfold fbody; rw [List.length_take]; omega
  obtain ⟨T1, hT1⟩ : ∃ T1, ftag b = T1 := ⟨_, rfl⟩
  obtain ⟨O1, hO1⟩ : ∃ O1, fbody b = O1 := ⟨_, rfl⟩
  obtain ⟨Q1, hQ1⟩ : ∃ Q1, b.take 4 = Q1 := ⟨_, rfl⟩
  rw [hT1] at hT
  rw [hO1] at hO hOl
  rw [hQ1] at hQ
  obtain ⟨A26, n26, c26, e26⟩ : ∃ A n c, V26 = .slice A n c := by
    obtain ⟨_, _, e, _⟩ := hO.is
    exact ⟨_, _, _, e⟩
  subst e26
  have HT := Lib.hid hT
  have HO := Lib.hid hO
  have HQ := Lib.hid hQ
  have HV21 := Lib.hid hV21
  have HV26 := Lib.hid hV26
  have HV33 := Lib.hid hV33
  have HK := Lib.hid hK
  have HT1 := Lib.hid hT1
  have HO1 := Lib.hid hO1
  have HQ1 := Lib.hid hQ1
  have HBB : Hid (Bs w (.slice Ab (M + 32) cb) b) := Lib.hid hB
  have HM := Lib.hid hM
  clear hB hr21 hr26 hr33 hT hO hQ hV21 hV26 hV33 hK hT1 hO1 hQ1 hM
  have HQQ : Hid (decide (Sha.tag key O1 = T1) = true) := Lib.hid (by rw [← HO1.out, ← HT1.out]; exact hq)
  have HMQ : Hid ((!decide (Q1 = magicL)) = true) := Lib.hid (by rw [← HQ1.out, hm]; rfl)
  clear hq hm
  go_enter Try.func68, Try.ntmps68
  go_wp2
  have hx0 : Ext w (w.alloc (.cells #[.int .u64 0, .int .i64 0, .slice none 0 0, .slice none 0 0] 68)) := (Ext.refl w).alloc _
  have hb0 : At68 (w.alloc (.cells #[.int .u64 0, .int .i64 0, .slice none 0 0, .slice none 0 0] 68)) w.heap.size z68 := heap_alloc_last w _
  generalize w.alloc (.cells #[.int .u64 0, .int .i64 0, .slice none 0 0, .slice none 0 0] 68) = W1 at *
  have HX1 := Lib.hid hx0
  have HB1 := Lib.hid hb0
  have hs1 := hb0.lt
  clear hx0 hb0
  refine wp_region_m (by kernel_rfl) (by kernel_rfl) ?_; try simp only [Act.put, List.setIfInBounds_toArray, List.set_cons_succ, List.set_cons_zero]
  refine gq rfl rfl rfl rfl (fun K hK => ?_); go_big_quiet_op; refine hK _ ?_; clear hK K
  refine gq rfl rfl rfl rfl (fun K hK => ?_); go_big_quiet_op; refine hK _ ?_; clear hK K
  refine gq rfl rfl rfl rfl (fun K hK => ?_); go_big_quiet_op; refine hK _ ?_; clear hK K
  try simp only [hd]
  refine gq rfl rfl rfl rfl (fun K hK => ?_); go_big_quiet_op; refine hK _ ?_; clear hK K
  refine gq rfl rfl rfl rfl (fun K hK => ?_); go_big_quiet_op; refine hK _ ?_; clear hK K
  refine gq rfl rfl rfl rfl (fun K hK => ?_); go_big_quiet_op; refine hK _ ?_; clear hK K
  refine gq rfl rfl rfl rfl (fun K hK => ?_); go_big_quiet_op; refine hK _ ?_; clear hK K
  refine gq rfl rfl rfl rfl (fun K hK => ?_); go_big_quiet_op; refine hK _ ?_; clear hK K
  refine gq rfl rfl rfl rfl (fun K hK => ?_); go_big_quiet_op; refine hK _ ?_; clear hK K
  refine ge rfl rfl rfl rfl V21 (exec_slice_every ei23.t (.tmp 17) (some (.tmp 20)) none rfl _ V21 rfl (some (.int .i64 (M : Int))) none rfl rfl HV21.out) ?_
  simp only [Act.put, List.setIfInBounds_toArray, List.set_cons_succ, List.set_cons_zero]
  refine gq rfl rfl rfl rfl (fun K hK => ?_); go_big_quiet_op; refine hK _ ?_; clear hK K
  refine gq rfl rfl rfl rfl (fun K hK => ?_); go_big_quiet_op; refine hK _ ?_; clear hK K
  refine gq rfl rfl rfl rfl (fun K hK => ?_); go_big_quiet_op; refine hK _ ?_; clear hK K
  refine gq rfl rfl rfl rfl (fun K hK => ?_); go_big_quiet_op; refine hK _ ?_; clear hK K
  refine ge rfl rfl rfl rfl (.slice A26 n26 c26) (exec_slice_every ei23.t (.tmp 22) none (some (.tmp 25)) rfl _ _ rfl none (some (.int .i64 (M : Int))) rfl rfl HV26.out) ?_
  simp only [Act.put, List.setIfInBounds_toArray, List.set_cons_succ, List.set_cons_zero]
  refine gv rfl rfl rfl rfl 27 rfl (RssR [O1]) RssR.ext (fun x => ⟨_, _, by go_simp <;> first | exact ⟨rfl, rfl⟩ | rfl, ⟨_, Rss.one _ _ O1 (Rd.ext HO.out (HX1.out.trans (ext_ext _ x)))⟩, (Ext.refl _).alloc _⟩) ?_
  simp only [Act.put, List.setIfInBounds_toArray, List.set_cons_succ, List.set_cons_zero]
  refine gcx rfl rfl 48 (fun xs => #[kv, V21, xs 27]) (.bool true) (fun xs => rfl) (fun xs w => by simp only [fillM, Act.put, List.setIfInBounds_toArray, List.set_cons_succ, List.set_cons_zero]; go_simp) (fun xs x hk => by obtain ⟨vs, hu⟩ := hk 27 (by decide) (by simp) _ rfl; have h := check_any O1 _ _ _ key T1 vs [O1] _ (Rd.ext HK.out (HX1.out.trans (ext_ext _ x))) (Rd.ext HT.out (HX1.out.trans (ext_ext _ x))) hu hk0 (Lib.hid (by simp)) hOl; rw [HQQ.out] at h; exact h) ?_
  simp only [Act.put, List.setIfInBounds_toArray, List.set_cons_succ, List.set_cons_zero]
  refine gq rfl rfl rfl rfl (fun K hK => ?_); go_big_quiet_op; refine hK _ ?_; clear hK K
  refine gq rfl rfl rfl rfl (fun K hK => ?_); go_big_quiet_op; refine hK _ ?_; clear hK K
  refine gq rfl rfl rfl rfl (fun K hK => ?_); go_big_quiet_op; refine hK _ ?_; clear hK K
  refine gq rfl rfl rfl rfl (fun K hK => ?_); go_big_quiet_op; refine hK _ ?_; clear hK K
  refine ge rfl rfl rfl rfl V33 (exec_slice_every ei23.t (.tmp 32) none (some (.const (.int .i64 4))) rfl _ V33 rfl none (some (.int .i64 4)) rfl rfl HV33.out) ?_
  simp only [Act.put, List.setIfInBounds_toArray, List.set_cons_succ, List.set_cons_zero]
  refine gx rfl rfl rfl rfl (Str Q1) (fun x => exec_str (.tmp 33) rfl V33 rfl Q1 _ (Rd.ext HQ.out (HX1.out.trans (ext_ext _ x)))) ?_
  simp only [Act.put, List.setIfInBounds_toArray, List.set_cons_succ, List.set_cons_zero]
  refine ge rfl rfl rfl rfl (.bool true) (fun x => by rw [exec_ne9 (.tmp 34) (.const (.string ⟨#[83, 69, 65, 76]⟩)) _ rfl Q1 magicL rfl rfl, HMQ.out]) ?_
  simp only [Act.put, List.setIfInBounds_toArray, List.set_cons_succ, List.set_cons_zero]
  refine gq rfl rfl rfl rfl (fun K hK => ?_); go_big_quiet_op; refine hK _ ?_; clear hK K
  refine gm_end_at rfl [(27, RssR [O1])] rfl (fun xs y hk => ?_)
  clear hk
  simp only [fillM, Act.put, List.setIfInBounds_toArray, List.set_cons_succ, List.set_cons_zero]
  go_wp2_with (refine wpl_store68 rfl _ _ rfl w.heap.size (.int .u64 0) (.int .i64 0) (.slice none 0 0) (.slice none 0 0) (.int .u64 0) (.int .i64 0) (.slice none 0 0) (.slice none 0 0) rfl rfl (by simp [row68, Value.oneCell']) (HB1.out.ext (ext_ext _ y)) ?_; intro wz hz huz; have HZ := Lib.hid hz; have HUZ := Lib.hid huz; clear hz huz)
  exact ret68t rfl w.heap.size _ _ _ _ _ rfl rfl HZ.out rfl ⟨rfl, (HX1.out.trans (ext_ext _ y)).upd_new HUZ.out (Nat.le_refl _)⟩
end Go.Proofs.Ytapojpjmeadabaa
end

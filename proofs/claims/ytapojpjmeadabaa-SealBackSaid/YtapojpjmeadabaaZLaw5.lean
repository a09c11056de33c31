/- Law5, Law6: several texts in one. -/
import Derived.Test.YtapojpjmeadabaaZLaw
import Derived.Test.YtapojpjmeadabaaZOfs
import Derived.Lib.SmallJoins
section
/- Arguments opened: slices of Items, one Item; each Item's bytes within the row's own reach. -/
namespace Go.Proofs.Ytapojpjmeadabaa
open Go.ChangeShapes Go.WideShapes Go.ChangeAt Go.RowKit
set_option linter.unusedVariables false
set_option linter.unusedSimpArgs false
theorem cellsOf3 : Try.prog.cellsOf 3 = 1 := by kernel_rfl
theorem cellsOf50 : Try.prog.cellsOf 50 = 2 := by kernel_rfl
theorem bytesOf5' : Try.prog.bytesOf 5 = 1 := by kernel_rfl
section
variable {H : Type} {enc : TypeId × Value → H} {W : World}
theorem weightsAll_mem {P : Program} {e : TypeId} : ∀ {ds : List (DataW H)} {d : DataW H}, d ∈ ds → ∀ n ∈ d.weights P e, n ∈ DataW.weightsAll P e ds
  | d0 :: ds, d, hd, n, hn => by
    simp only [DataW.weightsAll, List.mem_append]
    rcases List.mem_cons.1 hd with rfl | hd
    · exact Or.inl hn
    · exact Or.inr (weightsAll_mem hd n hn)
set_option maxRecDepth 100000 in
/-- Bytes, and what their weight says of their length. -/
theorem bs_sized {fuel : Nat} {v : Value} {x : DataW H × List MemPlace} (hf : DataW.trod enc Try.prog W 0 (fun _ => true) true fuel 23 [v] = some x) (hw : ∀ n ∈ x.1.weights Try.prog 23, n ≤ reachBytes) :
    ∃ l, Bs W v l ∧ l.length ≤ 140737488355328 := by
  obtain ⟨v', l, e, hB, _⟩ := bs_of_trod hf
  injection e with e _
  subst e
  refine ⟨l, hB, ?_⟩
  obtain ⟨A, c, hv, _⟩ := hB.is
  rcases open_ints Try.underlying23 Try.underlying5 cellsOf5 hf with ⟨hcs, hx⟩ | ⟨a, len, cap, zs, hcs, _, hle, hm, hz, hx, hcell, hwz⟩
  · injection hcs with hcs _
    rw [hcs] at hv
    injection hv with _ e2 _
    omega
  · injection hcs with hcs _
    rw [hcs] at hv
    injection hv with _ e2 _
    simp only [if_true] at hz
    subst hx
    have h1 := hw _ (by simp only [DataW.weights, Try.underlying23]; exact List.mem_cons_self)
    rw [bytesOf5', lits_length, lits_length, List.length_take, List.length_drop] at h1
    have hr := reachBytes_lt
    omega
set_option maxRecDepth 100000 in
theorem open_its_sized {base : Nat} {v : Value} {d : DataW H} {p : List MemPlace} {ts : List TypeId} {ds : List (DataW H)} (hz0 : (DataW.weightsEach Try.prog ts ds).all (· ≤ reachBytes) = true) (j : Nat) (htj : ts[j]? = some 38) (hdj : ds[j]? = some d)
    (hval : Value.okWide Try.prog W .any base 38 v) (h : DataW.Trod enc Try.prog W 0 (fun _ => true) true 38 v d p) : ∃ xs, Its W v xs ∧ ∀ x ∈ xs, x.b.length ≤ 140737488355328 := by
  obtain ⟨a1, len1, cap1, rfl⟩ := okWide_slice Try.underlying38 hval
  obtain ⟨fuel, hf⟩ := h
  rcases Go.Deep.open_slice_pairs Try.underlying38 Try.underlying50 cellsOf50 rfl rfl cellsOf3 cellsOf23 hf with ⟨hcs, hx⟩ | ⟨a, len, cap, m, n, V0, V1, D0, D1, P0, P1, hcs, _, hl, hm, hmm, hx, hcell⟩
  · simp [Value.cells] at hcs
    obtain ⟨rfl, rfl, rfl⟩ := hcs
    exact ⟨[], ⟨Rd.nil W 2, fun x hx => by cases hx⟩, fun x hx => by cases hx⟩
  · simp [Value.cells] at hcs
    obtain ⟨rfl, rfl, rfl⟩ := hcs
    simp only [if_true] at hmm
    subst hmm
    simp only [Prod.mk.injEq] at hx
    obtain ⟨rfl, _⟩ := hx
    have each : ∀ i, i < len1 → ∃ y : It, V0 i = .int .i64 y.z ∧ V1 i = y.u ∧ Bs W y.u y.b ∧ y.b.length ≤ 140737488355328 := fun i hi => by
      obtain ⟨c0, c1, t0, t1⟩ := hcell i (by omega)
      obtain ⟨z, e, _, _⟩ := DataW.trod_int Try.underlying3 t0
      injection e with e _
      obtain ⟨l, hB, hlen⟩ := bs_sized t1 (fun k hk => by
        have h1 := List.all_eq_true.1 hz0 _ (DataW.weights_mem_each htj hdj k (by
          simp only [DataW.weights, Try.underlying38, List.mem_cons, List.mem_append]
          refine Or.inr (Or.inl (weightsAll_mem (d := .agg [D0 i, D1 i]) (List.mem_map.2 ⟨i, List.mem_range.2 hi, rfl⟩) k ?_))
          simp only [DataW.weights, Try.underlying50, List.map_cons, List.map_nil, DataW.weightsEach, List.mem_append]
          exact Or.inr (Or.inl hk)))
        simpa using h1)
      exact ⟨⟨V1 i, z, l⟩, e, rfl, hB, hlen⟩
    obtain ⟨L, hL⟩ := Go.Deep.choose_lt each
    have hitc : ∀ k, k ≤ len1 → itc ((List.range k).map L) = (List.range k).flatMap fun i => [V0 i, V1 i] := by
      intro k
      induction k with
      | zero => intro _; rfl
      | succ k ih =>
        intro hk
        rw [List.range_succ, List.map_append, itc_append, ih (by omega), List.flatMap_append]
        obtain ⟨e0, e1, _⟩ := hL k (by omega)
        simp [itc, e0, e1]
    refine ⟨(List.range len1).map L, ⟨?_, fun x hx => ?_⟩, fun x hx => ?_⟩
    · rw [List.length_map, List.length_range]
      refine ⟨by rw [itc_length]; simp, some a, _, rfl, hl, hm, (fun h => by cases h), fun h0 => ?_⟩
      obtain ⟨ab, ao, spot⟩ := a
      have hspot : spot = none := by simpa [Addr.add] using World.cell?_spot (hcell 0 (by omega)).1
      subst hspot
      refine ⟨ab, ao, rfl, ?_, fun j u hj => ?_⟩
      · have := World.block_lt_of_cell? W _ (hcell 0 (by omega)).1
        simpa [Addr.add] using this
      · have hj' : j < len1 * 2 := by
          have := (List.getElem?_eq_some_iff.1 hj).1
          rw [itc_length] at this
          simpa using this
        obtain ⟨k, hk⟩ : ∃ k, j = k * 2 ∨ j = k * 2 + 1 := ⟨j / 2, by omega⟩
        have hkl : k < len1 := by omega
        obtain ⟨g1, g2⟩ := itc_get ((List.range len1).map L) k (by simpa using hkl)
        have eL : ((List.range len1).map L).getD k default = L k := by simp [List.getD, hkl]
        rw [eL] at g1 g2
        obtain ⟨e0, e1, _⟩ := hL k hkl
        obtain ⟨c0, c1, _, _⟩ := hcell k (by omega)
        rw [Addr.add_lit] at c0 c1
        rcases hk with rfl | rfl
        · rw [g1] at hj
          injection hj with hj
          rw [← hj, c0, e0]
        · rw [g2] at hj
          injection hj with hj
          rw [← hj, c1, e1]
    · obtain ⟨i, hi, rfl⟩ := List.mem_map.1 hx
      exact (hL i (List.mem_range.1 hi)).2.2.1
    · obtain ⟨i, hi, rfl⟩ := List.mem_map.1 hx
      exact (hL i (List.mem_range.1 hi)).2.2.2
end
end Go.Proofs.Ytapojpjmeadabaa
end

section
/- Arguments opened: one Item by value. -/
namespace Go.Proofs.Ytapojpjmeadabaa
open Go.ChangeShapes Go.WideShapes Go.ChangeAt Go.RowKit
set_option linter.unusedVariables false
set_option linter.unusedSimpArgs false
section
variable {H : Type} {enc : TypeId × Value → H} {W : World}
set_option maxRecDepth 100000 in
theorem open_item_sized {base : Nat} {v : Value} {d : DataW H} {p : List MemPlace} {ts : List TypeId} {ds : List (DataW H)} (hz0 : (DataW.weightsEach Try.prog ts ds).all (· ≤ reachBytes) = true) (j : Nat) (htj : ts[j]? = some 50) (hdj : ds[j]? = some d)
    (hval : Value.okWide Try.prog W .any base 50 v) (h : DataW.Trod enc Try.prog W 0 (fun _ => true) true 50 v d p) : ∃ x : It, v = .agg #[.int .i64 x.z, x.u] ∧ Bs W x.u x.b ∧ x.b.length ≤ 140737488355328 := by
  obtain ⟨v0, v1, y0, y1, n, rfl, rfl, rfl, t0, t1⟩ := Go.Joins.open_agg2 Try.underlying50 (by kernel_rfl) cellsOf50 hval h
  obtain ⟨z, e, _, _⟩ := DataW.trod_int Try.underlying3 t0
  injection e with e _
  obtain ⟨l, hB, hlen⟩ := bs_sized t1 (fun k hk => by
    have h1 := List.all_eq_true.1 hz0 _ (DataW.weights_mem_each htj hdj k (by
      simp only [DataW.weights, Try.underlying50, List.map_cons, List.map_nil, DataW.weightsEach, List.mem_append]
      exact Or.inr (Or.inl hk)))
    simpa using h1)
  exact ⟨⟨v1, z, l⟩, by rw [e], hB, hlen⟩
end
end Go.Proofs.Ytapojpjmeadabaa
end

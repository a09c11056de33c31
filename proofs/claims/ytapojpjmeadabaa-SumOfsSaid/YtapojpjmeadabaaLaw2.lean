/- More arguments opened: numbers, strings, slices of slices, Items, Seals; and what the second form's bound gives. -/
import Derived.Test.YtapojpjmeadabaaLaw
import Derived.Test.YtapojpjmeadabaaSum
import Derived.Deep.Slices
import Derived.Deep.SlicePairs
import Derived.ChangeMaps5
import Derived.JoinedCond
import Derived.Deep.CondSized
namespace Go.Proofs.Ytapojpjmeadabaa
open Go.ChangeShapes Go.WideShapes Go.ChangeAt Go.RowKit
set_option linter.unusedVariables false
set_option linter.unusedSimpArgs false

/-! ### bulk -/
section
variable {H : Type}
theorem bulk_pos (d : DataW H) : 1 ≤ Rows.uptoBulk d := by
  cases d with
  | lit l => cases l <;> simp [Rows.uptoBulk]
  | nil => simp [Rows.uptoBulk]
  | ptr d => simp [Rows.uptoBulk]
  | slice elems spare => simp [Rows.uptoBulk]
  | agg parts => simp [Rows.uptoBulk]
  | iface t d => simp [Rows.uptoBulk]
  | map entries => simp [Rows.uptoBulk]
  | held h => simp [Rows.uptoBulk]
theorem bulk_length (l : List (DataW H)) : l.length ≤ Rows.uptoBulkAll l := by
  induction l with
  | nil => simp [Rows.uptoBulkAll]
  | cons x r ih => have := bulk_pos x; simp only [Rows.uptoBulkAll, List.length_cons]; omega
theorem bulk_slice (elems spare : List (DataW H)) : Rows.uptoBulkAll elems + 1 ≤ Rows.uptoBulk (.slice elems spare) := by
  simp only [Rows.uptoBulk]; omega
theorem bulk_small {l : List (DataW H)} (hk : Rows.uptoSmall H l = true) : Rows.uptoBulkAll l ≤ 1048576 := of_decide_eq_true hk
theorem bulk_flat (ls : List (List UInt8)) (ds : List (DataW H)) (hl : ls.length = ds.length) (h : ∀ i (hi : i < ds.length), (ls.getD i []).length ≤ Rows.uptoBulk ds[i]) : ls.flatten.length ≤ Rows.uptoBulkAll ds := by
  induction ls generalizing ds with
  | nil => simp
  | cons l ls ih =>
    cases ds with
    | nil => cases hl
    | cons d ds =>
      have h0 := h 0 (by simp)
      have h1 := ih ds (by simpa using hl) fun i hi => by
        have := h (i + 1) (by simpa using hi)
        simp only [List.getD_cons_succ, List.getElem_cons_succ] at this
        exact this
      simp only [List.flatten_cons, List.length_append, Rows.uptoBulkAll]
      simp at h0
      omega
end

section
variable {H : Type} {enc : TypeId × Value → H} {W : World}
theorem cellsOf23 : Try.prog.cellsOf 23 = 1 := by kernel_rfl
set_option maxRecDepth 100000 in
theorem bs_of_trod {fuel : Nat} {cs : List Value} {x : DataW H × List MemPlace} (hf : DataW.trod enc Try.prog W 0 (fun _ => true) true fuel 23 cs = some x) :
    ∃ v l, cs = [v] ∧ Bs W v l ∧ l.length ≤ Rows.uptoBulk x.1 := by
  rcases open_ints Try.underlying23 Try.underlying5 cellsOf5 hf with ⟨hcs, hx⟩ | ⟨a, len, cap, zs, hcs, _, hl, hm, hz, hx, hcell, hwz⟩
  · exact ⟨_, [], hcs, Rd.nil W 1, Nat.zero_le _⟩
  · simp only [if_true] at hz
    have hlen : ((zs.take len).map fun n => UInt8.ofNat n.toNat).length = len := by simp; omega
    refine ⟨_, (zs.take len).map fun n => UInt8.ofNat n.toNat, hcs, ?_, ?_⟩
    · refine Bs.of_rd (n := len) (⟨by rw [List.length_map, hlen]; omega, some a, cap, rfl, hl, hm, (fun h => by cases h), fun h0 => ?_⟩ : Rd W 1 _ len _) hlen.symm rfl
      obtain ⟨ab, ao, spot⟩ := a
      have hspot : spot = none := by simpa [Addr.add] using World.cell?_spot (hcell 0 (by omega))
      subst hspot
      refine ⟨ab, ao, rfl, ?_, fun j u hj => ?_⟩
      · have := World.block_lt_of_cell? W _ (hcell 0 (by omega))
        simpa [Addr.add] using this
      · have hj' : j < len := by
          have := (List.getElem?_eq_some_iff.1 hj).1
          rw [List.length_map, hlen] at this; exact this
        have hcj := hcell j (by omega)
        rw [Addr.add_lit] at hcj
        rw [hcj]
        have hb := range_u8 hwz j
        have e2 : zs[j]?.getD 0 = zs[j]'(by omega) := by simp [List.getElem?_eq_getElem (show j < zs.length by omega)]
        rw [e2] at hb
        have e : zs.getD j 0 = zs[j]'(by omega) := by simp [List.getD, List.getElem?_eq_getElem (show j < zs.length by omega)]
        rw [List.getElem?_map, List.getElem?_map, List.getElem?_take, if_pos hj', List.getElem?_eq_getElem (by omega)] at hj
        simp only [Option.map_some, Option.some.injEq] at hj
        rw [← hj, e]
        congr 1
        show Value.int .u8 _ = Value.int .u8 (i8 _)
        congr 1
        unfold i8
        simp only [UInt8.toNat_ofNat']
        omega
    · rw [hlen, hx]
      have h1 := bulk_length (lits (H := H) .u8 (zs.take len))
      have h2 := bulk_slice (lits (H := H) .u8 (zs.take len)) (lits .u8 (zs.drop len))
      rw [lits_length, List.length_take] at h1
      simp only
      omega

set_option maxRecDepth 100000 in
theorem open_b8 {base : Nat} {v : Value} {d : DataW H} {p : List MemPlace} (hval : Value.okWide Try.prog W .any base 5 v) (h : DataW.Trod enc Try.prog W 0 (fun _ => true) true 5 v d p) : ∃ c : UInt8, v = B8 c := by
  obtain ⟨n, rfl, _, _, hw⟩ := open_int Try.underlying5 hval h
  have hw' : (0 ≤ n ∧ n ≤ 255) := by
    have h2 : (decide (0 ≤ n) && decide (n ≤ 255)) = true := hw
    simpa only [Bool.and_eq_true, decide_eq_true_eq] using h2
  refine ⟨UInt8.ofNat n.toNat, ?_⟩
  unfold B8 i8
  simp only [UInt8.toNat_ofNat']
  congr 1
  omega
set_option maxRecDepth 100000 in
theorem open_i64 {base : Nat} {v : Value} {d : DataW H} {p : List MemPlace} (hval : Value.okWide Try.prog W .any base 3 v) (h : DataW.Trod enc Try.prog W 0 (fun _ => true) true 3 v d p) : ∃ n : Int, v = .int .i64 n ∧ -9223372036854775808 ≤ n ∧ n ≤ 9223372036854775807 := by
  obtain ⟨n, rfl, _, _, hw⟩ := open_int Try.underlying3 hval h
  exact ⟨n, rfl, by
    have h2 : (decide (-9223372036854775808 ≤ n) && decide (n ≤ 9223372036854775807)) = true := hw
    simpa only [Bool.and_eq_true, decide_eq_true_eq] using h2⟩
set_option maxRecDepth 100000 in
theorem open_u64 {base : Nat} {v : Value} {d : DataW H} {p : List MemPlace} (hval : Value.okWide Try.prog W .any base 65 v) (h : DataW.Trod enc Try.prog W 0 (fun _ => true) true 65 v d p) : ∃ n : Nat, v = .int .u64 (n : Int) ∧ n ≤ 18446744073709551615 := by
  obtain ⟨n, rfl, _, _, hw⟩ := open_int Try.underlying65 hval h
  have hw' : (0 ≤ n ∧ n ≤ 18446744073709551615) := by
    have h2 : (decide (0 ≤ n) && decide (n ≤ 18446744073709551615)) = true := hw
    simpa only [Bool.and_eq_true, decide_eq_true_eq] using h2
  exact ⟨n.toNat, by rw [Int.toNat_of_nonneg hw'.1], by omega⟩
set_option maxRecDepth 100000 in
theorem open_u16 {base : Nat} {v : Value} {d : DataW H} {p : List MemPlace} (hval : Value.okWide Try.prog W .any base 77 v) (h : DataW.Trod enc Try.prog W 0 (fun _ => true) true 77 v d p) : ∃ n : Nat, v = .int .u16 (n : Int) ∧ n ≤ 65535 := by
  obtain ⟨n, rfl, _, _, hw⟩ := open_int Try.underlying77 hval h
  have hw' : (0 ≤ n ∧ n ≤ 65535) := by
    have h2 : (decide (0 ≤ n) && decide (n ≤ 65535)) = true := hw
    simpa only [Bool.and_eq_true, decide_eq_true_eq] using h2
  exact ⟨n.toNat, by rw [Int.toNat_of_nonneg hw'.1], by omega⟩
set_option maxRecDepth 100000 in
theorem open_str {base : Nat} {v : Value} {d : DataW H} {p : List MemPlace} (hval : Value.okWide Try.prog W .any base 9 v) (h : DataW.Trod enc Try.prog W 0 (fun _ => true) true 9 v d p) : ∃ s : ByteArray, v = .string s ∧ s.size ≤ maxLen := by
  obtain ⟨s, rfl, _, _, hs⟩ := Go.ChangeMaps.open_string Try.underlying9 hval h
  exact ⟨s, rfl, hs⟩
set_option maxRecDepth 100000 in
theorem open_rss {base : Nat} {v : Value} {d : DataW H} {p : List MemPlace} (hval : Value.okWide Try.prog W .any base 22 v) (h : DataW.Trod enc Try.prog W 0 (fun _ => true) true 22 v d p) :
    ∃ vs ls, Rss W v vs ls ∧ ls.flatten.length ≤ Rows.uptoBulk d := by
  obtain ⟨a1, len1, cap1, rfl⟩ := okWide_slice Try.underlying22 hval
  obtain ⟨fuel, hf⟩ := h
  rcases Go.Deep.open_slice1 Try.underlying22 cellsOf23 hf with ⟨hcs, hx⟩ | ⟨a, len, cap, m, n, V, D, Pl, hcs, _, hl, hm, hmm, hx, hcell⟩
  · simp [Value.cells] at hcs
    obtain ⟨rfl, rfl, rfl⟩ := hcs
    exact ⟨[], [], ⟨Rd.nil W 1, fun i hi => absurd hi (Nat.not_lt_zero _)⟩, Nat.zero_le _⟩
  · simp [Value.cells] at hcs
    obtain ⟨rfl, rfl, rfl⟩ := hcs
    simp only [if_true] at hmm
    subst hmm
    have each : ∀ i, i < len1 → ∃ l : List UInt8, Bs W (V i) l ∧ l.length ≤ Rows.uptoBulk (D i) := fun i hi => by
      obtain ⟨v, l, h1, h2, h3⟩ := bs_of_trod (hcell i (by omega)).2
      have h1' : V i = v := by simpa using h1
      subst h1'
      exact ⟨l, h2, h3⟩
    obtain ⟨L, hL⟩ := Go.Deep.choose_lt each
    simp only [Prod.mk.injEq] at hx
    obtain ⟨rfl, _⟩ := hx
    refine ⟨(List.range len1).map V, (List.range len1).map L, ⟨?_, fun i hi => ?_⟩, ?_⟩
    · rw [List.length_map, List.length_range]
      refine ⟨by simp, some a, _, rfl, hl, hm, (fun h => by cases h), fun h0 => ?_⟩
      obtain ⟨ab, ao, spot⟩ := a
      have hspot : spot = none := by simpa [Addr.add] using World.cell?_spot (hcell 0 (by omega)).1
      subst hspot
      refine ⟨ab, ao, rfl, ?_, fun j u hj => ?_⟩
      · have := World.block_lt_of_cell? W _ (hcell 0 (by omega)).1
        simpa [Addr.add] using this
      · have hj' : j < len1 := by have := (List.getElem?_eq_some_iff.1 hj).1; simpa using this
        have hcj := (hcell j (by omega)).1
        rw [Addr.add_lit] at hcj
        rw [hcj]
        simp [hj'] at hj
        rw [hj]
    · have hi' : i < len1 := by simpa using hi
      refine ⟨V i, by simp [hi'], ?_⟩
      have e : ((List.range len1).map L).getD i [] = L i := by simp [List.getD, hi']
      rw [e]
      exact (hL i hi').1
    · refine Nat.le_trans (bulk_flat _ ((List.range len1).map D) (by simp) fun i hi => ?_) (Nat.le_trans (Nat.le_succ _) (bulk_slice _ _))
      have hi' : i < len1 := by simpa using hi
      have e : ((List.range len1).map L).getD i [] = L i := by simp [List.getD, hi']
      rw [e]
      simpa using (hL i hi').2
end
end Go.Proofs.Ytapojpjmeadabaa

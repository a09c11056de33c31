/- Law, Law2, Head: several texts in one. -/
import Derived.Test.YtapojpjmeadabaaRows
import Derived.Test.YtapojpjmeadabaaZPure
import Derived.ProofKit
import Derived.OpenShut
import Derived.SizedLaws
import Derived.Test.YtapojpjmeadabaaZRegm
import Derived.Deep.Slices
import Derived.Deep.SlicePairs
import Derived.ChangeMaps5
import Derived.JoinedCond
import Derived.Deep.CondSized
section
/- What all laws share: arguments opened, the answer shut. -/
namespace Go.Proofs.Ytapojpjmeadabaa
open Go.ChangeShapes Go.WideShapes Go.ChangeAt Go.RowKit
set_option linter.unusedVariables false
set_option linter.unusedSimpArgs false

theorem Try.own : ownKnob Try.prog.godebug = none := by kernel_rfl
theorem Try.laidOut : laidOutB Try.prog = true := by kernel_rfl
theorem cellsOf5 : Try.prog.cellsOf 5 = 1 := by kernel_rfl

section
variable {H : Type} {enc : TypeId × Value → H}
theorem below_trodAll {W W' : World} (hb : Below W.heap.size W W') : ∀ (ts : List TypeId) (vs : List Value) (ds : List (DataW H)) (ps : List MemPlace),
    (∀ t ∈ ts, Try.prog.readableRec t = true ∧ t < Try.prog.types.size) → (∀ x ∈ ps, x.block < W.heap.size) →
    DataW.TrodAll enc Try.prog W 0 (fun _ => true) true ts vs ds ps → DataW.TrodAll enc Try.prog W' 0 (fun b => decide (b < W.heap.size)) true ts vs ds ps
  | [], [], [], ps, _, _, h => h
  | t :: ts, v :: vs, d :: ds, ps, hr, hlt, h => by
    obtain ⟨p, q, h1, h2, rfl⟩ := h
    exact ⟨p, q, Below.trod Try.laidOut (hr t (by simp)).1 (hr t (by simp)).2 h1 hb (fun x hx => hlt x (List.mem_append_left _ hx)),
      below_trodAll hb ts vs ds q (fun t ht => hr t (by simp [ht])) (fun x hx => hlt x (List.mem_append_right _ hx)) h2, rfl⟩
  | [], _ :: _, _, _, _, _, h => by cases h
  | [], [], _ :: _, _, _, _, h => by cases h
  | _ :: _, [], _, _, _, _, h => by cases h
  | _ :: _, _ :: _, [], _, _, _, h => by cases h
/-- The answer of a law that has only made new memory. -/
theorem law_post {f : Func} {s : ChangeSpec} {W W' : World} {args : Array Value} {ds gs : List (DataW H)} {before : List MemPlace} (hvars : s.vars = [])
    (hW : DataW.Whole enc Try.prog f.params.toList s.vars false W args.toList ds gs before) (hrt : f.resultTypes = #[4])
    (hres : (s.fn H ds).results = [.lit (.bool true)]) (hargs : (s.fn H ds).args = ds) (hva : (s.fn H ds).vars = [])
    (hr : ∀ t ∈ f.params.toList, Try.prog.readableRec t = true ∧ t < Try.prog.types.size) (hx : Below W.heap.size W W') :
    s.post enc Try.prog f false true false false W args (.bool true) W' := by
  have hW' := hW
  obtain ⟨p, q, hA, hV, rfl, hfz, hnd⟩ := hW
  rw [hvars] at hV
  obtain ⟨rfl, rfl⟩ := trodVars_none hV
  refine ⟨ds, [], p ++ [], [], p, [], hW', ?_, ?_, ?_, hx.frame _, fun h => by cases h⟩
  · rw [List.append_nil, hres, hrt]
    exact trodAll_mk1 (shut_bool Try.underlying4 true)
  · rw [List.append_nil, hargs]
    exact below_trodAll hx _ _ _ _ hr (fun x hx => hW'.lt x (List.mem_append_left _ hx)) hA
  · rw [List.append_nil, hva, hvars]
    rfl
set_option maxRecDepth 100000 in
theorem open_bs {W : World} {base : Nat} {v : Value} {d : DataW H} {p : List MemPlace} (hval : Value.okWide Try.prog W .any base 23 v) (h : DataW.Trod enc Try.prog W 0 (fun _ => true) true 23 v d p) : ∃ l, Bs W v l := by
  obtain ⟨a1, len, cap, rfl⟩ := okWide_slice Try.underlying23 hval
  obtain ⟨fuel, hf⟩ := h
  rcases open_ints Try.underlying23 Try.underlying5 cellsOf5 hf with ⟨hcs, hx⟩ | ⟨a, len', cap', zs, hcs, _, hl, hm, hz, hx, hcell, hwz⟩
  · simp [Value.cells] at hcs
    obtain ⟨rfl, rfl, rfl⟩ := hcs
    exact ⟨[], Rd.zero (Nat.zero_le _) (fun _ => rfl)⟩
  · simp [Value.cells] at hcs
    obtain ⟨rfl, rfl, rfl⟩ := hcs
    simp only [if_true] at hz
    have hlen : ((zs.take len).map fun n => UInt8.ofNat n.toNat).length = len := by simp; omega
    refine ⟨(zs.take len).map fun n => UInt8.ofNat n.toNat, ?_⟩
    refine Bs.of_rd (n := len) (⟨by rw [List.length_map, hlen]; omega, some a, cap, rfl, hl, hm, (fun h => by cases h), fun h0 => ?_⟩ : Rd W 1 _ len _) hlen.symm rfl
    obtain ⟨ab, ao, spot⟩ := a
    have hspot : spot = none := by simpa [Addr.add] using World.cell?_spot (hcell 0 (by omega))
    subst hspot
    refine ⟨ab, ao, rfl, ?_, fun j u hj => ?_⟩
    · have := World.block_lt_of_cell? W _ (hcell 0 (by omega))
      simpa [Addr.add] using this
    · have hj' : j < len := by
        have := (List.getElem?_eq_some_iff.1 hj).1
        rw [List.length_map, hlen] at this; exact this
      have hcj := hcell j (by omega)
      rw [Addr.add_lit] at hcj
      rw [hcj]
      have hb := range_u8 hwz j
      have e2 : zs[j]?.getD 0 = zs[j]'(by omega) := by simp [List.getElem?_eq_getElem (show j < zs.length by omega)]
      rw [e2] at hb
      have e : zs.getD j 0 = zs[j]'(by omega) := by simp [List.getD, List.getElem?_eq_getElem (show j < zs.length by omega)]
      rw [List.getElem?_map, List.getElem?_map, List.getElem?_take, if_pos hj', List.getElem?_eq_getElem (by omega)] at hj
      simp only [Option.map_some, Option.some.injEq] at hj
      rw [← hj, e]
      congr 1
      show Value.int .u8 _ = Value.int .u8 (i8 _)
      congr 1
      unfold i8
      simp only [UInt8.toNat_ofNat']
      omega
theorem bytesOf5 : Try.prog.bytesOf 5 = 1 := by kernel_rfl
theorem lits_length (k : IntKind) (l : List Int) : (lits (H := H) k l).length = l.length := by simp [lits]
set_option maxRecDepth 100000 in
/-- And what the row's own reach says of its length. -/
theorem open_bs_sized {W : World} {base : Nat} {v : Value} {d : DataW H} {p : List MemPlace} {ts : List TypeId} {ds : List (DataW H)} (hz0 : (DataW.weightsEach Try.prog ts ds).all (· ≤ reachBytes) = true) (j : Nat) (htj : ts[j]? = some 23) (hdj : ds[j]? = some d)
    (hval : Value.okWide Try.prog W .any base 23 v) (h : DataW.Trod enc Try.prog W 0 (fun _ => true) true 23 v d p) : ∃ l, Bs W v l ∧ l.length ≤ 140737488355328 := by
  obtain ⟨l, hl⟩ := open_bs hval h
  refine ⟨l, hl, ?_⟩
  obtain ⟨a1, len, cap, rfl⟩ := okWide_slice Try.underlying23 hval
  obtain ⟨A, c, hv, _⟩ := hl.is
  injection hv with e1 e2 e3
  obtain ⟨fuel, hf⟩ := h
  rcases open_ints Try.underlying23 Try.underlying5 cellsOf5 hf with ⟨hcs, hx⟩ | ⟨a, len', cap', zs, hcs, _, hle, hm, hz, hx, hcell, hwz⟩
  · simp [Value.cells] at hcs
    omega
  · simp [Value.cells] at hcs
    obtain ⟨rfl, rfl, rfl⟩ := hcs
    simp only [if_true] at hz
    simp only [Prod.mk.injEq] at hx
    obtain ⟨rfl, rfl⟩ := hx
    have hs := sized_slice hz0 htj hdj Try.underlying23
    rw [bytesOf5, lits_length, lits_length, List.length_take, List.length_drop] at hs
    have hr := reachBytes_lt
    omega
end
end Go.Proofs.Ytapojpjmeadabaa
end

section
/- More arguments opened: numbers, strings, slices of slices, Items, Seals; and what the second form's bound gives. -/
namespace Go.Proofs.Ytapojpjmeadabaa
open Go.ChangeShapes Go.WideShapes Go.ChangeAt Go.RowKit
set_option linter.unusedVariables false
set_option linter.unusedSimpArgs false

/-! ### bulk -/
section
variable {H : Type}
theorem bulk_pos (d : DataW H) : 1 ≤ Rows.uptoBulk d := by
  cases d with
  | lit l => cases l <;> simp [Rows.uptoBulk]
  | nil => simp [Rows.uptoBulk]
  | ptr d => simp [Rows.uptoBulk]
  | slice elems spare => simp [Rows.uptoBulk]
  | agg parts => simp [Rows.uptoBulk]
  | iface t d => simp [Rows.uptoBulk]
  | map entries => simp [Rows.uptoBulk]
  | held h => simp [Rows.uptoBulk]
theorem bulk_length (l : List (DataW H)) : l.length ≤ Rows.uptoBulkAll l := by
  induction l with
  | nil => simp [Rows.uptoBulkAll]
  | cons x r ih => have := bulk_pos x; simp only [Rows.uptoBulkAll, List.length_cons]; omega
theorem bulk_slice (elems spare : List (DataW H)) : Rows.uptoBulkAll elems + 1 ≤ Rows.uptoBulk (.slice elems spare) := by
  simp only [Rows.uptoBulk]; omega
theorem bulk_small {l : List (DataW H)} (hk : Rows.uptoSmall H l = true) : Rows.uptoBulkAll l ≤ 1048576 := of_decide_eq_true hk
theorem bulk_flat (ls : List (List UInt8)) (ds : List (DataW H)) (hl : ls.length = ds.length) (h : ∀ i (hi : i < ds.length), (ls.getD i []).length ≤ Rows.uptoBulk ds[i]) : ls.flatten.length ≤ Rows.uptoBulkAll ds := by
  induction ls generalizing ds with
  | nil => simp
  | cons l ls ih =>
    cases ds with
    | nil => cases hl
    | cons d ds =>
      have h0 := h 0 (by simp)
      have h1 := ih ds (by simpa using hl) fun i hi => by
        have := h (i + 1) (by simpa using hi)
        simp only [List.getD_cons_succ, List.getElem_cons_succ] at this
        exact this
      simp only [List.flatten_cons, List.length_append, Rows.uptoBulkAll]
      simp at h0
      omega
end

section
variable {H : Type} {enc : TypeId × Value → H} {W : World}
theorem cellsOf23 : Try.prog.cellsOf 23 = 1 := by kernel_rfl
set_option maxRecDepth 100000 in
theorem bs_of_trod {fuel : Nat} {cs : List Value} {x : DataW H × List MemPlace} (hf : DataW.trod enc Try.prog W 0 (fun _ => true) true fuel 23 cs = some x) :
    ∃ v l, cs = [v] ∧ Bs W v l ∧ l.length ≤ Rows.uptoBulk x.1 := by
  rcases open_ints Try.underlying23 Try.underlying5 cellsOf5 hf with ⟨hcs, hx⟩ | ⟨a, len, cap, zs, hcs, _, hl, hm, hz, hx, hcell, hwz⟩
  · exact ⟨_, [], hcs, Rd.nil W 1, Nat.zero_le _⟩
  · simp only [if_true] at hz
    have hlen : ((zs.take len).map fun n => UInt8.ofNat n.toNat).length = len := by simp; omega
    refine ⟨_, (zs.take len).map fun n => UInt8.ofNat n.toNat, hcs, ?_, ?_⟩
    · refine Bs.of_rd (n := len) (⟨by rw [List.length_map, hlen]; omega, some a, cap, rfl, hl, hm, (fun h => by cases h), fun h0 => ?_⟩ : Rd W 1 _ len _) hlen.symm rfl
      obtain ⟨ab, ao, spot⟩ := a
      have hspot : spot = none := by simpa [Addr.add] using World.cell?_spot (hcell 0 (by omega))
      subst hspot
      refine ⟨ab, ao, rfl, ?_, fun j u hj => ?_⟩
      · have := World.block_lt_of_cell? W _ (hcell 0 (by omega))
        simpa [Addr.add] using this
      · have hj' : j < len := by
          have := (List.getElem?_eq_some_iff.1 hj).1
          rw [List.length_map, hlen] at this; exact this
        have hcj := hcell j (by omega)
        rw [Addr.add_lit] at hcj
        rw [hcj]
        have hb := range_u8 hwz j
        have e2 : zs[j]?.getD 0 = zs[j]'(by omega) := by simp [List.getElem?_eq_getElem (show j < zs.length by omega)]
        rw [e2] at hb
        have e : zs.getD j 0 = zs[j]'(by omega) := by simp [List.getD, List.getElem?_eq_getElem (show j < zs.length by omega)]
        rw [List.getElem?_map, List.getElem?_map, List.getElem?_take, if_pos hj', List.getElem?_eq_getElem (by omega)] at hj
        simp only [Option.map_some, Option.some.injEq] at hj
        rw [← hj, e]
        congr 1
        show Value.int .u8 _ = Value.int .u8 (i8 _)
        congr 1
        unfold i8
        simp only [UInt8.toNat_ofNat']
        omega
    · rw [hlen, hx]
      have h1 := bulk_length (lits (H := H) .u8 (zs.take len))
      have h2 := bulk_slice (lits (H := H) .u8 (zs.take len)) (lits .u8 (zs.drop len))
      rw [lits_length, List.length_take] at h1
      simp only
      omega

set_option maxRecDepth 100000 in
theorem open_b8 {base : Nat} {v : Value} {d : DataW H} {p : List MemPlace} (hval : Value.okWide Try.prog W .any base 5 v) (h : DataW.Trod enc Try.prog W 0 (fun _ => true) true 5 v d p) : ∃ c : UInt8, v = B8 c := by
  obtain ⟨n, rfl, _, _, hw⟩ := open_int Try.underlying5 hval h
  have hw' : (0 ≤ n ∧ n ≤ 255) := by
    have h2 : (decide (0 ≤ n) && decide (n ≤ 255)) = true := hw
    simpa only [Bool.and_eq_true, decide_eq_true_eq] using h2
  refine ⟨UInt8.ofNat n.toNat, ?_⟩
  unfold B8 i8
  simp only [UInt8.toNat_ofNat']
  congr 1
  omega
set_option maxRecDepth 100000 in
theorem open_i64 {base : Nat} {v : Value} {d : DataW H} {p : List MemPlace} (hval : Value.okWide Try.prog W .any base 3 v) (h : DataW.Trod enc Try.prog W 0 (fun _ => true) true 3 v d p) : ∃ n : Int, v = .int .i64 n ∧ -9223372036854775808 ≤ n ∧ n ≤ 9223372036854775807 := by
  obtain ⟨n, rfl, _, _, hw⟩ := open_int Try.underlying3 hval h
  exact ⟨n, rfl, by
    have h2 : (decide (-9223372036854775808 ≤ n) && decide (n ≤ 9223372036854775807)) = true := hw
    simpa only [Bool.and_eq_true, decide_eq_true_eq] using h2⟩
set_option maxRecDepth 100000 in
theorem open_u64 {base : Nat} {v : Value} {d : DataW H} {p : List MemPlace} (hval : Value.okWide Try.prog W .any base 65 v) (h : DataW.Trod enc Try.prog W 0 (fun _ => true) true 65 v d p) : ∃ n : Nat, v = .int .u64 (n : Int) ∧ n ≤ 18446744073709551615 := by
  obtain ⟨n, rfl, _, _, hw⟩ := open_int Try.underlying65 hval h
  have hw' : (0 ≤ n ∧ n ≤ 18446744073709551615) := by
    have h2 : (decide (0 ≤ n) && decide (n ≤ 18446744073709551615)) = true := hw
    simpa only [Bool.and_eq_true, decide_eq_true_eq] using h2
  exact ⟨n.toNat, by rw [Int.toNat_of_nonneg hw'.1], by omega⟩
set_option maxRecDepth 100000 in
theorem open_u16 {base : Nat} {v : Value} {d : DataW H} {p : List MemPlace} (hval : Value.okWide Try.prog W .any base 77 v) (h : DataW.Trod enc Try.prog W 0 (fun _ => true) true 77 v d p) : ∃ n : Nat, v = .int .u16 (n : Int) ∧ n ≤ 65535 := by
  obtain ⟨n, rfl, _, _, hw⟩ := open_int Try.underlying77 hval h
  have hw' : (0 ≤ n ∧ n ≤ 65535) := by
    have h2 : (decide (0 ≤ n) && decide (n ≤ 65535)) = true := hw
    simpa only [Bool.and_eq_true, decide_eq_true_eq] using h2
  exact ⟨n.toNat, by rw [Int.toNat_of_nonneg hw'.1], by omega⟩
set_option maxRecDepth 100000 in
theorem open_str {base : Nat} {v : Value} {d : DataW H} {p : List MemPlace} (hval : Value.okWide Try.prog W .any base 9 v) (h : DataW.Trod enc Try.prog W 0 (fun _ => true) true 9 v d p) : ∃ s : ByteArray, v = .string s ∧ s.size ≤ maxLen := by
  obtain ⟨s, rfl, _, _, hs⟩ := Go.ChangeMaps.open_string Try.underlying9 hval h
  exact ⟨s, rfl, hs⟩
set_option maxRecDepth 100000 in
theorem open_rss {base : Nat} {v : Value} {d : DataW H} {p : List MemPlace} (hval : Value.okWide Try.prog W .any base 22 v) (h : DataW.Trod enc Try.prog W 0 (fun _ => true) true 22 v d p) :
    ∃ vs ls, Rss W v vs ls ∧ ls.flatten.length ≤ Rows.uptoBulk d := by
  obtain ⟨a1, len1, cap1, rfl⟩ := okWide_slice Try.underlying22 hval
  obtain ⟨fuel, hf⟩ := h
  rcases Go.Deep.open_slice1 Try.underlying22 cellsOf23 hf with ⟨hcs, hx⟩ | ⟨a, len, cap, m, n, V, D, Pl, hcs, _, hl, hm, hmm, hx, hcell⟩
  · simp [Value.cells] at hcs
    obtain ⟨rfl, rfl, rfl⟩ := hcs
    exact ⟨[], [], ⟨Rd.nil W 1, fun i hi => absurd hi (Nat.not_lt_zero _)⟩, Nat.zero_le _⟩
  · simp [Value.cells] at hcs
    obtain ⟨rfl, rfl, rfl⟩ := hcs
    simp only [if_true] at hmm
    subst hmm
    have each : ∀ i, i < len1 → ∃ l : List UInt8, Bs W (V i) l ∧ l.length ≤ Rows.uptoBulk (D i) := fun i hi => by
      obtain ⟨v, l, h1, h2, h3⟩ := bs_of_trod (hcell i (by omega)).2
      have h1' : V i = v := by simpa using h1
      subst h1'
      exact ⟨l, h2, h3⟩
    obtain ⟨L, hL⟩ := Go.Deep.choose_lt each
    simp only [Prod.mk.injEq] at hx
    obtain ⟨rfl, _⟩ := hx
    refine ⟨(List.range len1).map V, (List.range len1).map L, ⟨?_, fun i hi => ?_⟩, ?_⟩
    · rw [List.length_map, List.length_range]
      refine ⟨by simp, some a, _, rfl, hl, hm, (fun h => by cases h), fun h0 => ?_⟩
      obtain ⟨ab, ao, spot⟩ := a
      have hspot : spot = none := by simpa [Addr.add] using World.cell?_spot (hcell 0 (by omega)).1
      subst hspot
      refine ⟨ab, ao, rfl, ?_, fun j u hj => ?_⟩
      · have := World.block_lt_of_cell? W _ (hcell 0 (by omega)).1
        simpa [Addr.add] using this
      · have hj' : j < len1 := by have := (List.getElem?_eq_some_iff.1 hj).1; simpa using this
        have hcj := (hcell j (by omega)).1
        rw [Addr.add_lit] at hcj
        rw [hcj]
        simp [hj'] at hj
        rw [hj]
    · have hi' : i < len1 := by simpa using hi
      refine ⟨V i, by simp [hi'], ?_⟩
      have e : ((List.range len1).map L).getD i [] = L i := by simp [List.getD, hi']
      rw [e]
      exact (hL i hi').1
    · refine Nat.le_trans (bulk_flat _ ((List.range len1).map D) (by simp) fun i hi => ?_) (Nat.le_trans (Nat.le_succ _) (bulk_slice _ _))
      have hi' : i < len1 := by simpa using hi
      have e : ((List.range len1).map L).getD i [] = L i := by simp [List.getD, hi']
      rw [e]
      simpa using (hL i hi').2
end
end Go.Proofs.Ytapojpjmeadabaa
end

section
/- The program's head, read once: three closed facts that every row asks. -/
namespace Go.Proofs.Ytapojpjmeadabaa
open Go Go.ChangeShapes Go.WideShapes Go.ChangeAt Go.RowKit

theorem wordsSigns_word (r : List Char) : ∀ w : List Char, (∀ c ∈ w, c ≠ ' ') → wordsSigns (w ++ ' ' :: r) = w :: wordsSigns r
  | [], _ => rfl
  | c :: w, h => by
    have hc : c ≠ ' ' := h c (by simp)
    have ih := wordsSigns_word r w fun x hx => h x (by simp [hx])
    generalize wordsSigns r = R at *
    show wordsSigns (c :: (w ++ ' ' :: r)) = _
    unfold wordsSigns
    split
    · rename_i e; cases e
    · rename_i e; injection e with e1 e2; exact absurd e1 hc
    · rename_i c' r' hne e
      injection e with e1 e2
      subst e1; subst e2
      rw [ih]
def sumL : List Char := ['4', 'a', 'f', '6', '4', 'b', 'f', '8', '9', '9', '2', '3', '2', 'a', '8', 'a', '9', '8', 'c', '4', '6', '0', 'a', 'e', '9', 'a', '7', '4', '2', '8', '1', 'f', 'e', '9', 'e', '0', '5', '2', '8', '4', '7', '7', '7', '6', '6', '1', '0', 'c', '1', 'd', '8', 'a', '7', 'd', '6', '5', 'c', '7', 'c', '8', 'b', 'a', '0', 'e']
def restL : List Char := ['a', 't', ' ', 's', 'a', 'c', 'r', 'i', 's', 't', 'a', 'n', '/', 's', 'a', 'c', 'r', 'i', 's', 't', 'a', 'n', 'l', 'a', 'w', '0', '2', '.', 'S', 'h', 'a', 'S', 'u', 'm', 's', ' ', 's', 'a', 'c', 'r', 'i', 's', 't', 'a', 'n', '/', 's', 'a', 'c', 'r', 'i', 's', 't', 'a', 'n', 'l', 'a', 'w', '0', '2', '.', 'S', 'h', 'a', 'S', 't', 'e', 'p', 's', ' ', 's', 'a', 'c', 'r', 'i', 's', 't', 'a', 'n', '/', 's', 'a', 'c', 'r', 'i', 's', 't', 'a', 'n', 'l', 'a', 'w', '0', '2', '.', 'S', 'h', 'a', 'C', 'o', 'p', 'i', 'e', 's', ' ', 's', 'a', 'c', 'r', 'i', 's', 't', 'a', 'n', '/', 's', 'a', 'c', 'r', 'i', 's', 't', 'a', 'n', 'l', 'a', 'w', '0', '2', '.', 'S', 'h', 'a', 'P', 'i', 'e', 'c', 'e', 's', ' ', 's', 'a', 'c', 'r', 'i', 's', 't', 'a', 'n', '/', 's', 'a', 'c', 'r', 'i', 's', 't', 'a', 'n', 'l', 'a', 'w', '0', '2', '.', 'S', 'h', 'a', 'O', 'n', 'e', ' ', 's', 'a', 'c', 'r', 'i', 's', 't', 'a', 'n', '/', 's', 'a', 'c', 'r', 'i', 's', 't', 'a', 'n', 'l', 'a', 'w', '0', '2', '.', 'S', 'h', 'a', 'P', 'a', 'd', 's', ' ', 's', 'a', 'c', 'r', 'i', 's', 't', 'a', 'n', '/', 's', 'a', 'c', 'r', 'i', 's', 't', 'a', 'n', 'l', 'a', 'w', '1', '0', '.', 'A', 'u', 'd', 'i', 't', 'H', 'e', 'a', 'p', 's', ' ', 's', 'a', 'c', 'r', 'i', 's', 't', 'a', 'n', '/', 's', 'a', 'c', 'r', 'i', 's', 't', 'a', 'n', 'l', 'a', 'w', '0', '3', '.', 'M', 'a', 'c', 'T', 'a', 'g', 's', ' ', 's', 'a', 'c', 'r', 'i', 's', 't', 'a', 'n', '/', 's', 'a', 'c', 'r', 'i', 's', 't', 'a', 'n', 'l', 'a', 'w', '0', '3', '.', 'M', 'a', 'c', 'C', 'h', 'e', 'c', 'k', 's', ' ', 's', 'a', 'c', 'r', 'i', 's', 't', 'a', 'n', '/', 's', 'a', 'c', 'r', 'i', 's', 't', 'a', 'n', 'l', 'a', 'w', '1', '0', '.', 'A', 'u', 'd', 'i', 't', 'S', 'a', 'm', 'e', ' ', 's', 'a', 'c', 'r', 'i', 's', 't', 'a', 'n', '/', 's', 'a', 'c', 'r', 'i', 's', 't', 'a', 'n', 'l', 'a', 'w', '0', '3', '.', 'M', 'a', 'c', 'K', 'e', 'y', 's', ' ', 's', 'a', 'c', 'r', 'i', 's', 't', 'a', 'n', '/', 's', 'a', 'c', 'r', 'i', 's', 't', 'a', 'n', 'l', 'a', 'w', '0', '3', '.', 'M', 'a', 'c', 'D', 'e', 'r', 'i', 'v', 'e', 's', ' ', 's', 'a', 'c', 'r', 'i', 's', 't', 'a', 'n', '/', 's', 'a', 'c', 'r', 'i', 's', 't', 'a', 'n', 'l', 'a', 'w', '0', '3', '.', 'M', 'a', 'c', 'B', 'e', 'g', 'i', 'n', 's', ' ', 's', 'a', 'c', 'r', 'i', 's', 't', 'a', 'n', '/', 's', 'a', 'c', 'r', 'i', 's', 't', 'a', 'n', 'l', 'a', 'w', '0', '3', '.', 'M', 'a', 'c', 'P', 'a', 'r', 't', 's', ' ', 's', 'a', 'c', 'r', 'i', 's', 't', 'a', 'n', '/', 's', 'a', 'c', 'r', 'i', 's', 't', 'a', 'n', 'l', 'a', 'w', '0', '5', '.', 'S', 'u', 'm', 'O', 'f', 's', ' ', 's', 'a', 'c', 'r', 'i', 's', 't', 'a', 'n', '/', 's', 'a', 'c', 'r', 'i', 's', 't', 'a', 'n', 'l', 'a', 'w', '0', '5', '.', 'S', 'u', 'm', 'O', 'r', 'd', 'e', 'r', 's', ' ', 's', 'a', 'c', 'r', 'i', 's', 't', 'a', 'n', '/', 's', 'a', 'c', 'r', 'i', 's', 't', 'a', 'n', 'l', 'a', 'w', '0', '5', '.', 'S', 'u', 'm', 'I', 't', 'e', 'm', 's', ' ', 's', 'a', 'c', 'r', 'i', 's', 't', 'a', 'n', '/', 's', 'a', 'c', 'r', 'i', 's', 't', 'a', 'n', 'l', 'a', 'w', '0', '5', '.', 'S', 'u', 'm', 'K', 'e', 'y', 's', ' ', 's', 'a', 'c', 'r', 'i', 's', 't', 'a', 'n', '/', 's', 'a', 'c', 'r', 'i', 's', 't', 'a', 'n', 'l', 'a', 'w', '0', '8', '.', 'S', 'e', 'a', 'l', 'L', 'o', 'n', 'g', ' ', 's', 'a', 'c', 'r', 'i', 's', 't', 'a', 'n', '/', 's', 'a', 'c', 'r', 'i', 's', 't', 'a', 'n', 'l', 'a', 'w', '0', '8', '.', 'S', 'e', 'a', 'l', 'B', 'a', 'c', 'k', ' ', 's', 'a', 'c', 'r', 'i', 's', 't', 'a', 'n', '/', 's', 'a', 'c', 'r', 'i', 's', 't', 'a', 'n', 'l', 'a', 'w', '0', '8', '.', 'S', 'e', 'a', 'l', 'D', 'e', 'c', 'o', 'd', 'e', 's', ' ', 's', 'a', 'c', 'r', 'i', 's', 't', 'a', 'n', '/', 's', 'a', 'c', 'r', 'i', 's', 't', 'a', 'n', 'l', 'a', 'w', '0', '8', '.', 'S', 'e', 'a', 'l', 'C', 'h', 'o', 'o', 's', 'e', 's', ' ', 's', 'a', 'c', 'r', 'i', 's', 't', 'a', 'n', '/', 's', 'a', 'c', 'r', 'i', 's', 't', 'a', 'n', 'l', 'a', 'w', '0', '8', '.', 'S', 'e', 'a', 'l', 'O', 'r', 'd', 'e', 'r', ' ', 's', 'a', 'c', 'r', 'i', 's', 't', 'a', 'n', '/', 's', 'a', 'c', 'r', 'i', 's', 't', 'a', 'n', 'l', 'a', 'w', '0', '8', '.', 'S', 'e', 'a', 'l', 'E', 'n', 'c', 'o', 'd', 'e', 's', ' ', 's', 'a', 'c', 'r', 'i', 's', 't', 'a', 'n', '/', 's', 'a', 'c', 'r', 'i', 's', 't', 'a', 'n', 'l', 'a', 'w', '0', '8', '.', 'S', 'e', 'a', 'l', 'F', 'l', 'i', 'p', 's']
set_option maxRecDepth 100000 in
theorem head_list : Try.prog.initOrder.toList = ['h', 'a', 'r', 'n', 'e', 's', 's'] ++ ' ' :: (sumL ++ ' ' :: (['c', 'u', 't'] ++ ' ' :: restL)) := by
  have h : Try.prog.initOrder = String.ofList (['h', 'a', 'r', 'n', 'e', 's', 's'] ++ ' ' :: (sumL ++ ' ' :: (['c', 'u', 't'] ++ ' ' :: restL))) := by kernel_rfl
  rw [h, String.toList_ofList]
theorem behind_sum (r : List (List Char)) : behindMainWord (['h', 'a', 'r', 'n', 'e', 's', 's'] :: sumL :: r) = r := by
  have e : ((['h', 'a', 'r', 'n', 'e', 's', 's'] == "harness".toList || ['h', 'a', 'r', 'n', 'e', 's', 's'] == "ownmain".toList) && isSumSigns sumL) = true := by kernel_rfl
  show (if (((['h', 'a', 'r', 'n', 'e', 's', 's'] == "harness".toList || ['h', 'a', 'r', 'n', 'e', 's', 's'] == "ownmain".toList) && isSumSigns sumL) = true) then r else ['h', 'a', 'r', 'n', 'e', 's', 's'] :: sumL :: r) = r
  exact if_pos e
theorem head_words : behindMainWord (wordsSigns Try.prog.initOrder.toList) = ['c', 'u', 't'] :: wordsSigns restL := by
  rw [head_list, wordsSigns_word _ _ (by decide), wordsSigns_word _ _ (by decide), wordsSigns_word _ _ (by decide), behind_sum]
theorem strip_cut (r : List (List Char)) : stripLifts liftWords (['c', 'u', 't'] :: r) = ([], ['c', 'u', 't'] :: r) := by
  have e : ∀ o ∈ liftWords, (['c', 'u', 't'] == o.toList) = false := by decide +kernel
  have : ∀ os : List String, (∀ o ∈ os, (['c', 'u', 't'] == o.toList) = false) → stripLifts os (['c', 'u', 't'] :: r) = ([], ['c', 'u', 't'] :: r) := by
    intro os
    induction os with
    | nil => intro _; rfl
    | cons o os ih =>
      intro h
      unfold stripLifts
      rw [if_neg (by rw [h o (by simp)]; exact Bool.false_ne_true)]
      exact ih fun x hx => h x (by simp [hx])
  exact this _ e
theorem head_lifts : Try.prog.headLifts = [] := by
  unfold Program.headLifts
  rw [head_words, strip_cut]
  generalize wordsSigns restL = R
  simp only [ite_self]
theorem head_lifted : Try.prog.liftsFinal = false := by
  unfold Program.liftsFinal
  rw [head_lifts, head_words]
  generalize wordsSigns restL = R
  have e : ((['c', 'u', 't'] :: R).head? == some "carried".toList) = false := by
    show (some ['c', 'u', 't'] == some "carried".toList) = false
    kernel_rfl
  simp only [e, Bool.false_and, Bool.false_or]
  rfl
theorem make_of (P : Program) (R : List (List Char)) (h : behindMainWord (wordsSigns P.initOrder.toList) = ['c', 'u', 't'] :: R) : P.make = some .cut := by
  unfold Program.make
  rw [h]
  have e1 : ((['c', 'u', 't'] == "gc".toList) || (['c', 'u', 't'] == "spec".toList)) = false := by kernel_rfl
  have e2 : (['c', 'u', 't'] == "cut".toList) = true := by kernel_rfl
  simp only [e1, e2, Bool.true_or, Bool.false_eq_true, if_false, if_true]
theorem head_make : Try.prog.make = some .cut := make_of Try.prog (wordsSigns restL) head_words
theorem head_later : Try.prog.laysLater = false := by kernel_rfl
theorem head_reflect : Try.prog.bearsReflect = false := by kernel_rfl
theorem head_door : Try.prog.doorFits [] = true := by kernel_rfl
theorem enter_of (P : Program) (R : List (List Char)) (h : behindMainWord (wordsSigns P.initOrder.toList) = ['c', 'u', 't'] :: R) (h1 : P.laysLater = false) (h2 : P.bearsReflect = false) (h3 : P.doorFits [] = true) : P.mayEnter = true := by
  unfold Program.mayEnter
  rw [h]
  have e : (some ['c', 'u', 't'] == some "cut".toList) = true := by kernel_rfl
  simp only [strip_cut, h1, h2, h3, List.head?_cons, e, Bool.not_false, Bool.or_true, Bool.and_true, Bool.true_and]
  rfl
theorem head_enter : Try.prog.mayEnter = true := enter_of Try.prog (wordsSigns restL) head_words head_later head_reflect head_door
end Go.Proofs.Ytapojpjmeadabaa
end

/- Law8: several texts in one. -/
import Derived.Test.YtapojpjmeadabaaZLaw5
import Derived.Test.YtapojpjmeadabaaZSeal1
import Derived.Lib.SmallJoins
import Derived.Deep.Slices
import Derived.OpenShut
section
/- Arguments opened: a seal by value. -/
namespace Go.Proofs.Ytapojpjmeadabaa
open Go.ChangeShapes Go.WideShapes Go.ChangeAt Go.RowKit
set_option linter.unusedVariables false
set_option linter.unusedSimpArgs false
theorem cellsOf27 : Try.prog.cellsOf 27 = 32 := by kernel_rfl
theorem cellsOf68 : Try.prog.cellsOf 68 = 4 := by kernel_rfl
theorem bytesOf27 : Try.prog.bytesOf 27 = 32 := by kernel_rfl
def unB8 : Value → UInt8
  | .int _ n => UInt8.ofNat n.toNat
  | _ => 0
section
variable {H : Type} {enc : TypeId × Value → H} {W : World}
theorem bytes_of_trod27 {fuel : Nat} {cs : List Value} {x : DataW H × List MemPlace} (hf : DataW.trod enc Try.prog W 0 (fun _ => true) true fuel 27 cs = some x) : ∃ d : List UInt8, cs = d.map B8 ∧ d.length = 32 := by
  obtain ⟨xs, m, _, _, hl, hxs, hi⟩ := DataW.trod_array Try.underlying27 hf
  rw [cellsOf27] at hl
  refine ⟨cs.map unB8, ?_, by rw [List.length_map, hl]⟩
  apply List.ext_getElem
  · simp
  · intro i h1 h2
    have h := hi i (by omega)
    rw [cellsOf5, Nat.mul_one, List.getElem?_eq_getElem (by omega)] at h
    obtain ⟨n, e, _, hw⟩ := DataW.trod_int Try.underlying5 h
    have hc : cs[i] = .int .u8 n := by
      have e2 := congrArg (fun l : List Value => l[0]?) e
      simp only [List.getElem?_take, List.getElem?_drop] at e2
      rw [if_pos (by decide), Nat.add_zero, List.getElem?_eq_getElem h1] at e2
      injection e2
    have hb : 0 ≤ n ∧ n ≤ 255 := by
      have h2 : (decide (0 ≤ n) && decide (n ≤ 255)) = true := hw
      simpa only [Bool.and_eq_true, decide_eq_true_eq] using h2
    rw [List.getElem_map, List.getElem_map, hc]
    show Value.int .u8 n = Value.int .u8 (i8 _)
    congr 1
    unfold unB8 i8
    simp only [UInt8.toNat_ofNat']
    omega
set_option maxRecDepth 100000 in
theorem dgs_of_trod {fuel : Nat} {v : Value} {x : DataW H × List MemPlace} (hf : DataW.trod enc Try.prog W 0 (fun _ => true) true fuel 66 [v] = some x) (hw : ∀ n ∈ x.1.weights Try.prog 66, n ≤ reachBytes) :
    ∃ ds, Dgs W v ds ∧ ds.length ≤ 4398046511104 := by
  rcases Go.Deep.open_slice Try.underlying66 hf with ⟨hcs, hx⟩ | ⟨a, len, cap, m, n, D, Pl, hcs, _, hl, hm, hmm, hx, hcell⟩
  · injection hcs with hcs _
    subst hcs
    exact ⟨[], ⟨Rd.nil W 32, by intro d hd; cases hd⟩, by decide⟩
  · injection hcs with hcs _
    subst hcs
    simp only [if_true] at hmm
    subst hmm
    subst hx
    have each : ∀ i, i < len → ∃ d : List UInt8, W.cells? 0 (a.add (i * 32)) 32 = some (d.map B8) ∧ d.length = 32 := fun i hi => by
      obtain ⟨cs', h1, h2⟩ := hcell i (by omega)
      rw [cellsOf27] at h1
      obtain ⟨d, hd, hdl⟩ := bytes_of_trod27 h2
      exact ⟨d, by rw [← hd]; exact h1, hdl⟩
    obtain ⟨L, hL⟩ := Go.Deep.choose_lt each
    have hall : ∀ d ∈ (List.range len).map L, d.length = 32 := fun d hd => by
      obtain ⟨i, hi, rfl⟩ := List.mem_map.1 hd
      exact (hL i (List.mem_range.1 hi)).2
    have hfl := flat32 _ hall
    have hll : ((List.range len).map L).length = len := by simp
    refine ⟨(List.range len).map L, ⟨?_, hall⟩, ?_⟩
    · rw [hll] at hfl ⊢
      refine ⟨by unfold dgc; rw [List.length_map, hfl], some a, _, rfl, hl, hm, (fun h => by cases h), fun h0 => ?_⟩
      have hc0 := (World.cells?_some (hL 0 h0).1).2.2 0 (by decide)
      have hd0 := (hL 0 h0).2
      rw [List.getElem?_map, List.getElem?_eq_getElem (by omega)] at hc0
      obtain ⟨ab, ao, spot⟩ := a
      have hspot : spot = none := by simpa [Addr.add] using World.cell?_spot hc0
      subst hspot
      refine ⟨ab, ao, rfl, ?_, fun j u hj => ?_⟩
      · have := World.block_lt_of_cell? W _ hc0
        simpa [Addr.add] using this
      · have hj' : j < len * 32 := by
          have := (List.getElem?_eq_some_iff.1 hj).1
          unfold dgc at this
          rw [List.length_map, hfl] at this
          exact this
        have hjq : j = j / 32 * 32 + j % 32 := by omega
        have hi : j / 32 < len := by omega
        have hg := flat32_get _ hall (j / 32) (j % 32) (by rw [hll]; exact hi) (by omega)
        rw [← hjq] at hg
        have hLi : ((List.range len).map L).getD (j / 32) [] = L (j / 32) := by simp [List.getD, hi]
        rw [hLi] at hg
        unfold dgc at hj
        rw [List.getElem?_map, hg] at hj
        have hc := (World.cells?_some (hL (j / 32) hi).1).2.2 (j % 32) (by omega)
        rw [List.getElem?_map, hj] at hc
        have ea : ((⟨ab, ao, none⟩ : Addr).add (j / 32 * 32)).add (j % 32) = ⟨ab, ao + j, none⟩ := by
          rw [Addr.add_lit, Addr.add_lit, Nat.add_assoc, show j / 32 * 32 + j % 32 = j by omega]
        rw [ea] at hc
        exact hc
    · have h1 := hw _ (by simp only [DataW.weights, Try.underlying66]; exact List.mem_cons_self)
      rw [bytesOf27, List.length_map, List.length_range] at h1
      have hr := reachBytes_lt
      rw [hll]
      omega
set_option maxRecDepth 100000 in
theorem open_seal_sized {base : Nat} {v : Value} {d : DataW H} {p : List MemPlace} {ts : List TypeId} {ds : List (DataW H)} (hz0 : (DataW.weightsEach Try.prog ts ds).all (· ≤ reachBytes) = true) (j : Nat) (htj : ts[j]? = some 68) (hdj : ds[j]? = some d)
    (hval : Value.okWide Try.prog W .any base 68 v) (h : DataW.Trod enc Try.prog W 0 (fun _ => true) true 68 v d p) : ∃ x : Se, v = x.v ∧ SeR W x ∧ x.sl.length ≤ 140737488355328 ∧ x.su.length ≤ 4398046511104 := by
  obtain ⟨v0, v1, v2, v3, y0, y1, y2, y3, n, rfl, rfl, rfl, t0, t1, t2, t3⟩ := Go.Joins.open_agg4 Try.underlying68 (by kernel_rfl) cellsOf68 hval h
  obtain ⟨num, e0, _, hw0⟩ := DataW.trod_int Try.underlying65 t0
  obtain ⟨blk, e1, _, hw1⟩ := DataW.trod_int Try.underlying3 t1
  injection e0 with e0 _
  injection e1 with e1 _
  have hn : (0 ≤ num ∧ num ≤ 18446744073709551615) := by
    have h2 : (decide (0 ≤ num) && decide (num ≤ 18446744073709551615)) = true := hw0
    simpa only [Bool.and_eq_true, decide_eq_true_eq] using h2
  have hb : (-9223372036854775808 ≤ blk ∧ blk ≤ 9223372036854775807) := by
    have h2 : (decide (-9223372036854775808 ≤ blk) && decide (blk ≤ 9223372036854775807)) = true := hw1
    simpa only [Bool.and_eq_true, decide_eq_true_eq] using h2
  have hall : ∀ k ∈ (DataW.agg [y0.1, y1.1, y2.1, y3.1]).weights Try.prog 68, k ≤ reachBytes := fun k hk => by
    have h1 := List.all_eq_true.1 hz0 _ (DataW.weights_mem_each htj hdj k hk)
    simpa using h1
  simp only [DataW.weights, Try.underlying68, List.map_cons, List.map_nil, DataW.weightsEach, List.mem_append] at hall
  obtain ⟨sl, hB, hlen⟩ := bs_sized t2 (fun k hk => hall k (Or.inr (Or.inr (Or.inl hk))))
  obtain ⟨su, hG, hlen2⟩ := dgs_of_trod t3 (fun k hk => hall k (Or.inr (Or.inr (Or.inr (Or.inl hk)))))
  refine ⟨⟨num.toNat, blk, sl, su, v2, v3⟩, ?_, ⟨hB, hG, by show num.toNat ≤ _; omega, hb.1, hb.2⟩, hlen, hlen2⟩
  rw [e0, e1]
  show Value.agg #[.int .u64 num, .int .i64 blk, v2, v3] = Value.agg #[.int .u64 ((num.toNat : Nat) : Int), .int .i64 blk, v2, v3]
  rw [Int.toNat_of_nonneg hn.1]
end
end Go.Proofs.Ytapojpjmeadabaa
end

/- sha.Hash.take: a block of 64 bytes goes into a Hash's state. -/
import Derived.Test.YtapojpjmeadabaaSched
namespace Go.Proofs.Ytapojpjmeadabaa
open Go.RowKit
set_option linter.unusedVariables false
set_option linter.unusedSimpArgs false
attribute [local go_sem] lt_ext cell?_ext frozen?_ext shape?_ext u32_xor u32_or u32_and u32_not u32_not_max u32_add u32_wrap u8_wrap u32_shl24 u32_shl16 u32_shl8 u32_shr3 u32_shr10 u8_xor u8_or u32_of_u8 i32_mod i8_mod m32_add m32_shl24 m32_shl16 m32_shl8 m32_of_u8
theorem run_index98 (l : List (BitVec 32)) (k : Nat) (hk : k < l.length) (h64 : l.length = 64) (w : World) : (Instr.index 98 (.agg (row32 64 l)) (.int .i64 (k : Int))).run Try.prog w = .ok (W32 (l.getD k 0)) w := by
  have hc := row32_get (n := 64) hk
  simp [go_sem, Instr.index, hc]
  omega
def s8 (s : Sha.St) : Array Value := (s.toList.map W32).toArray
def mix (s x : Sha.St) (k : Nat) : List (BitVec 32) := (s.add x).toList.take k ++ s.toList.drop k
theorem mix_len (s x : Sha.St) (k : Nat) (hk : k ≤ 8) : (mix s x k).length = 8 := by simp [mix, Sha.St.toList]; omega
theorem below8 (k : Nat) (hk : k < 8) : k = 0 ∨ k = 1 ∨ k = 2 ∨ k = 3 ∨ k = 4 ∨ k = 5 ∨ k = 6 ∨ k = 7 := by omega
theorem mix_get (s x : Sha.St) (k : Nat) (hk : k < 8) : (mix s x k).getD k 0 = s.toList.getD k 0 := by
  rcases below8 k hk with h|h|h|h|h|h|h|h <;> subst h <;> rfl
theorem mix_set (s x : Sha.St) (k : Nat) (hk : k < 8) : (mix s x k).set k (s.toList.getD k 0 + x.toList.getD k 0) = mix s x (k + 1) := by
  rcases below8 k hk with h|h|h|h|h|h|h|h <;> subst h <;> rfl
theorem run_index100 (s : Sha.St) (k : Nat) (hk : k < 8) (w : World) : (Instr.index 100 (.agg #[W32 s.a, W32 s.b, W32 s.c, W32 s.d, W32 s.e, W32 s.f, W32 s.g, W32 s.h]) (.int .i64 (k : Int))).run Try.prog w = .ok (W32 (s.toList.getD k 0)) w := by
  rcases below8 k hk with h|h|h|h|h|h|h|h <;> subst h <;> simp [go_sem, Instr.index, Sha.St.toList]
theorem sum_eq (h r1 ch k w r2 mj : BitVec 32) : (i32 (h + r1) + i32 ch + i32 k + i32 w + i32 (r2 + mj)) % (4294967296 : Int) = i32 (h + r1 + ch + k + w + (r2 + mj)) := by
  simp only [← m32_add]
  omega
theorem sum_eq' (d h r1 ch k w : BitVec 32) : (i32 d + (i32 (h + r1) + i32 ch + i32 k + i32 w)) % (4294967296 : Int) = i32 (d + (h + r1 + ch + k + w)) := by
  simp only [← m32_add]
  omega
theorem store8 (w : World) (g : Nat) (s : Sha.St) (v0 v1 v2 v3 v4 v5 v6 v7 : Value) (h : w.heap[g]? = some (.cells (s8 s) 100 (0, 0))) :
    ((((((((w.setCell ⟨g, 0, none⟩ v0).setCell ⟨g, 1, none⟩ v1).setCell ⟨g, 2, none⟩ v2).setCell ⟨g, 3, none⟩ v3).setCell ⟨g, 4, none⟩ v4).setCell ⟨g, 5, none⟩ v5).setCell ⟨g, 6, none⟩ v6).setCell ⟨g, 7, none⟩ v7).heap[g]? =
      some (.cells #[v0, v1, v2, v3, v4, v5, v6, v7] 100 (0, 0)) := by
  have h0 := heap_setCell_same w g 0 _ _ v0 h
  have h1 := heap_setCell_same _ g 1 _ _ v1 h0
  have h2 := heap_setCell_same _ g 2 _ _ v2 h1
  have h3 := heap_setCell_same _ g 3 _ _ v3 h2
  have h4 := heap_setCell_same _ g 4 _ _ v4 h3
  have h5 := heap_setCell_same _ g 5 _ _ v5 h4
  have h6 := heap_setCell_same _ g 6 _ _ v6 h5
  have h7 := heap_setCell_same _ g 7 _ _ v7 h6
  rw [h7]
  simp [s8, Sha.St.toList]
set_option maxRecDepth 100000 in
set_option maxHeartbeats 1000000 in
theorem take_any (st : Sha.St) (l : List UInt8) (hl : l.length = 64) (hb b off cap kb : Nat) (rest : Value) (long : Int) (w : World) (hbl : b < w.heap.size)
    (hH : w.heap[hb]? = some (.cells (hcells st.toList rest (.int .u64 long) (.pointer (some ⟨kb, 0, none⟩))) 104 (0, 0)))
    (hK : w.heap[kb]? = some (.cells (row32 64 Sha.K) 98 (0, 0)))
    (hc : ∀ i, i < 64 → w.cell? ⟨b, off + i, none⟩ = some (B8 (l.getD i 0))) :
    Calls Try.prog 83 #[.pointer (some ⟨hb, 0, none⟩), .slice (some ⟨b, off, none⟩) 64 cap] w fun e w' => e = .returned (.tuple #[]) ∧
      w'.heap[hb]? = some (.cells (hcells (Sha.block st l).toList rest (.int .u64 long) (.pointer (some ⟨kb, 0, none⟩))) 104 (0, 0)) ∧ Upd w w' hb := by
  have hbh : hb < w.heap.size := (Array.getElem?_eq_some_iff.1 hH).1
  have hkh : kb < w.heap.size := (Array.getElem?_eq_some_iff.1 hK).1
  have g0 : w.cell? ⟨hb, 0, none⟩ = some (W32 st.a) := by rw [cell_of_row _ _ _ _ _ _ hH]; rfl
  have g1 : w.cell? ⟨hb, 1, none⟩ = some (W32 st.b) := by rw [cell_of_row _ _ _ _ _ _ hH]; rfl
  have g2 : w.cell? ⟨hb, 2, none⟩ = some (W32 st.c) := by rw [cell_of_row _ _ _ _ _ _ hH]; rfl
  have g3 : w.cell? ⟨hb, 3, none⟩ = some (W32 st.d) := by rw [cell_of_row _ _ _ _ _ _ hH]; rfl
  have g4 : w.cell? ⟨hb, 4, none⟩ = some (W32 st.e) := by rw [cell_of_row _ _ _ _ _ _ hH]; rfl
  have g5 : w.cell? ⟨hb, 5, none⟩ = some (W32 st.f) := by rw [cell_of_row _ _ _ _ _ _ hH]; rfl
  have g6 : w.cell? ⟨hb, 6, none⟩ = some (W32 st.g) := by rw [cell_of_row _ _ _ _ _ _ hH]; rfl
  have g7 : w.cell? ⟨hb, 7, none⟩ = some (W32 st.h) := by rw [cell_of_row _ _ _ _ _ _ hH]; rfl
  have HH := Lib.hid hH
  have HK := Lib.hid hK
  have HC := Lib.hid hc
  clear hH hK hc
  go_enter Try.func83, Try.ntmps83
  go_wp2_with fail
  refine (sched_any l hl b off cap _ (by simp; omega) (fun i hi => by rw [← HC.out i hi]; exact World.cell?_alloc_past _ _ _ hbl)).mono ?_
  rintro e w1 ⟨rfl, hx⟩
  have hS : w1.heap[w.heap.size]? = some (.cells (s8 st) 100 (0, 0)) := by rw [hx.block (by simp)]; exact heap_alloc_last w _
  have hx1 : Ext w w1 := ((Ext.refl w).alloc _).trans hx
  have HX := Lib.hid hx1
  have HS := Lib.hid hS
  clear hx hx1 hS g0 g1 g2 g3 g4 g5 g6 g7
  go_wp2_with fail
  go_loopw [19] (fun i wr => ∃ k : Nat, k ≤ 64 ∧ i = .int .i64 k ∧ Ext w wr ∧ wr.heap[w.heap.size]? = some (.cells (s8 (Sha.rounds st (Sha.words l 64) k)) 100 (0, 0)))
    (fun i _ => 64 - (intOf i).toNat)
  case atStart => exact ⟨0, by omega, rfl, HX.out, HS.out⟩
  case round =>
    clear HX HS
    obtain ⟨k, hk, rfl, he, hS⟩ := hrel
    by_cases hlt : k < 64
    · have hSr : w.heap.size < wr.heap.size := (Array.getElem?_eq_some_iff.1 hS).1
      have hhr : hb < wr.heap.size := Nat.lt_of_lt_of_le hbh he.size
      have hkr : kb < wr.heap.size := Nat.lt_of_lt_of_le hkh he.size
      generalize hst : Sha.rounds st (Sha.words l 64) k = s at hS
      have g0 : wr.cell? ⟨w.heap.size, 0, none⟩ = some (W32 s.a) := by rw [cell_of_row _ _ _ _ _ _ hS]; rfl
      have g1 : wr.cell? ⟨w.heap.size, 1, none⟩ = some (W32 s.b) := by rw [cell_of_row _ _ _ _ _ _ hS]; rfl
      have g2 : wr.cell? ⟨w.heap.size, 2, none⟩ = some (W32 s.c) := by rw [cell_of_row _ _ _ _ _ _ hS]; rfl
      have g3 : wr.cell? ⟨w.heap.size, 3, none⟩ = some (W32 s.d) := by rw [cell_of_row _ _ _ _ _ _ hS]; rfl
      have g4 : wr.cell? ⟨w.heap.size, 4, none⟩ = some (W32 s.e) := by rw [cell_of_row _ _ _ _ _ _ hS]; rfl
      have g5 : wr.cell? ⟨w.heap.size, 5, none⟩ = some (W32 s.f) := by rw [cell_of_row _ _ _ _ _ _ hS]; rfl
      have g6 : wr.cell? ⟨w.heap.size, 6, none⟩ = some (W32 s.g) := by rw [cell_of_row _ _ _ _ _ _ hS]; rfl
      have g7 : wr.cell? ⟨w.heap.size, 7, none⟩ = some (W32 s.h) := by rw [cell_of_row _ _ _ _ _ _ hS]; rfl
      have gk : wr.cell? ⟨hb, 10, none⟩ = some (.pointer (some ⟨kb, 0, none⟩)) := by rw [he.cell _ _ hbh, cell_of_row _ _ _ _ _ _ HH.out]; rfl
      have gK : wr.cell? ⟨kb, k, none⟩ = some (W32 (Sha.K.getD k 0)) := by rw [he.cell _ _ hkh, cell_of_row _ _ _ _ _ _ HK.out]; exact row32_get hlt
      have hix := run_index98 (Sha.words l 64) k (by rw [Sha.words_length]; exact hlt) (Sha.words_length l 64)
      have HE := Lib.hid he
      have HS := Lib.hid hS
      have HST := Lib.hid hst
      clear he hS hst
      go_wp2
      refine wp_region_qx (by kernel_rfl) (by kernel_rfl) ?_
      repeat (go_big_quiet_step (fail))
      refine wpQuiet_nil ?_
      intro x
      go_wp2
      refine wp_region_qx (by kernel_rfl) (by kernel_rfl) ?_
      repeat (go_big_quiet_step (exact Calls.in_ext_same (right_c _ _ (by decide) (by decide) _)))
      refine wpQuiet_nil ?_
      intro y
      obtain ⟨v, hv⟩ := ext_join wr x y
      rw [hv]
      clear hv y x
      go_wp2
      refine wp_region_qx (by kernel_rfl) (by kernel_rfl) ?_
      repeat (go_big_quiet_step (exact Calls.in_ext_same (right_c _ _ (by decide) (by decide) _)))
      refine wpQuiet_nil ?_
      intro y
      obtain ⟨x, hx⟩ := ext_join wr v y
      rw [hx]
      clear hx y v
      have hf : ∀ i, (wr.ext x).frozen? ⟨w.heap.size, i, none⟩ = false := fun i => frozen_of_row _ _ _ _ _ ((ext_heap wr x _ hSr).trans HS.out)
      go_wp2
      go_roundw
      case rel =>
        refine ⟨k + 1, by omega, by go_num, ?_, ?_⟩
        · repeat refine Ext.setCell_new ?_ trivial (Nat.le_refl _)
          exact HE.out.trans (ext_ext _ _)
        · have h0 := (ext_heap wr x _ hSr).trans HS.out
          rw [store8 _ _ _ _ _ _ _ _ _ _ _ h0, Sha.rounds, HST.out]
          rw [sum_eq, sum_eq']
          simp only [s8, Sha.St.toList, Sha.round, Sha.t1, Sha.t2, List.map_cons, List.map_nil, List.getD_eq_getElem?_getD]
          rfl
      case measure => simp [intOf]; omega
    · have hk64 : k = 64 := by omega
      subst hk64
      have HE := Lib.hid he
      generalize hst : Sha.rounds st (Sha.words l 64) 64 = s at hS
      have hSr : w.heap.size < wr.heap.size := (Array.getElem?_eq_some_iff.1 hS).1
      have g0 : wr.cell? ⟨w.heap.size, 0, none⟩ = some (W32 s.a) := by rw [cell_of_row _ _ _ _ _ _ hS]; rfl
      have g1 : wr.cell? ⟨w.heap.size, 1, none⟩ = some (W32 s.b) := by rw [cell_of_row _ _ _ _ _ _ hS]; rfl
      have g2 : wr.cell? ⟨w.heap.size, 2, none⟩ = some (W32 s.c) := by rw [cell_of_row _ _ _ _ _ _ hS]; rfl
      have g3 : wr.cell? ⟨w.heap.size, 3, none⟩ = some (W32 s.d) := by rw [cell_of_row _ _ _ _ _ _ hS]; rfl
      have g4 : wr.cell? ⟨w.heap.size, 4, none⟩ = some (W32 s.e) := by rw [cell_of_row _ _ _ _ _ _ hS]; rfl
      have g5 : wr.cell? ⟨w.heap.size, 5, none⟩ = some (W32 s.f) := by rw [cell_of_row _ _ _ _ _ _ hS]; rfl
      have g6 : wr.cell? ⟨w.heap.size, 6, none⟩ = some (W32 s.g) := by rw [cell_of_row _ _ _ _ _ _ hS]; rfl
      have g7 : wr.cell? ⟨w.heap.size, 7, none⟩ = some (W32 s.h) := by rw [cell_of_row _ _ _ _ _ _ hS]; rfl
      have HST := Lib.hid hst
      have hhr : hb < wr.heap.size := Nat.lt_of_lt_of_le hbh he.size
      have hH0 : wr.heap[hb]? = some (.cells (hcells st.toList rest (.int .u64 long) (.pointer (some ⟨kb, 0, none⟩))) 104 (0, 0)) := (he.block hbh).trans HH.out
      have hu0 : Upd w wr hb := Upd.of_ext he hb
      have HH0 := Lib.hid hH0
      have HU0 := Lib.hid hu0
      clear he hS hst hlt hk hH0 hu0 HH HK HC HE
      go_wp2
      go_loopw [106] (fun i ws => ∃ k : Nat, k ≤ 8 ∧ i = .int .i64 k ∧ Upd w ws hb ∧ ws.heap[hb]? = some (.cells (hcells (mix st s k) rest (.int .u64 long) (.pointer (some ⟨kb, 0, none⟩))) 104 (0, 0)))
        (fun i _ => 8 - (intOf i).toNat)
      case atStart => exact ⟨0, by omega, rfl, HU0.out, HH0.out⟩
      case round =>
        clear HU0 HH0 g0 g1 g2 g3 g4 g5 g6 g7
        obtain ⟨k, hk, rfl, he, hH⟩ := hrel
        rename_i ws
        by_cases hlt : k < 8
        · have hhs : hb < wr.heap.size := (Array.getElem?_eq_some_iff.1 hH).1
          have hix := run_index100 s k hlt
          have hc : wr.cell? ⟨hb, k, none⟩ = some (W32 (st.toList.getD k 0)) := by
            rw [cell_of_row _ _ _ _ _ _ hH, hcells_get (by rw [mix_len _ _ _ hk]; exact hlt), mix_get _ _ _ hlt]
          have hf : wr.frozen? ⟨hb, k, none⟩ = false := frozen_of_row _ _ _ _ _ hH
          have HE := Lib.hid he
          have HH := Lib.hid hH
          clear he hH
          go_wp2
          refine wp_region_qxt 11 (by kernel_rfl) (by kernel_rfl) ?_
          simp only [List.take_succ_cons, List.take_zero, List.drop_succ_cons, List.drop_zero]
          repeat (go_big_quiet_step (fail))
          refine wpQuiet_nil ?_
          intro x
          have hH1 := (ext_heap wr x _ hhs).trans HH.out
          have HX := Lib.hid (ext_ext wr x)
          have HH1 := Lib.hid hH1
          clear hH1
          go_wp2
          go_roundw
          case rel =>
            refine ⟨k + 1, by omega, by go_num, (HE.out.trans (Upd.of_ext HX.out hb)).setCell (.inl rfl) _, ?_⟩
            rw [heap_setCell_same _ _ _ _ _ _ HH1.out]
            have h := hcells_set (rest := rest) (long := .int .u64 long) (kp := .pointer (some ⟨kb, 0, none⟩)) (st.toList.getD k 0 + s.toList.getD k 0) (show k < (mix st s k).length by rw [mix_len _ _ _ hk]; exact hlt)
            rw [mix_set _ _ _ hlt] at h
            rw [← h]
            rfl
          case measure => simp [intOf]; omega
        · have hk8 : k = 8 := by omega
          subst hk8
          have HE := Lib.hid he
          have HH := Lib.hid hH
          clear he hH
          go_wp2
          go_end0
          refine ⟨rfl, ?_, HE.out⟩
          rw [HH.out]
          show _ = some (Obj.cells (hcells (st.add (Sha.rounds st (Sha.words l 64) 64)).toList _ _ _) 104 (0, 0))
          rw [HST.out]
          rfl
end Go.Proofs.Ytapojpjmeadabaa

/- sha.schedule: the 64 words of a block of 64 bytes. -/
import Derived.Test.YtapojpjmeadabaaBit
namespace Go.Proofs.Ytapojpjmeadabaa
open Go.RowKit
set_option linter.unusedVariables false
set_option linter.unusedSimpArgs false
attribute [local go_sem] cell?_ext frozen?_ext shape?_ext u32_xor u32_or u32_and u32_not u32_add u32_wrap u8_wrap u32_shl24 u32_shl16 u32_shl8 u32_shr3 u32_shr10 u8_xor u8_or u32_of_u8 i32_mod i8_mod m32_add m32_shl24 m32_shl16 m32_shl8 m32_of_u8
set_option maxRecDepth 100000 in
set_option maxHeartbeats 1000000 in
theorem sched_any (l : List UInt8) (hl : l.length = 64) (b off cap : Nat) (w : World) (hb : b < w.heap.size)
    (hc : ∀ i, i < 64 → w.cell? ⟨b, off + i, none⟩ = some (B8 (l.getD i 0))) :
    Calls Try.prog 115 #[.slice (some ⟨b, off, none⟩) 64 cap] w fun e w' => e = .returned (.agg (row32 64 (Sha.words l 64))) ∧ Ext w w' := by
  go_enter Try.func115, Try.ntmps115
  go_wp2
  go_loopw [4, 8] (fun _ i wr => ∃ k : Nat, k ≤ 16 ∧ i = .int .i64 k ∧ Ext w wr ∧ wr.heap[w.heap.size]? = some (.cells (row32 64 []) 98 (0, 0)) ∧ wr.heap[w.heap.size + 1]? = some (.cells (row32 64 (Sha.words l k)) 98 (0, 0)))
    (fun _ i _ => 16 - (intOf i).toNat)
  case atStart =>
    exact ⟨0, by omega, rfl, ((Ext.refl _).alloc _).alloc _, heap_alloc2_old _ _ _, heap_alloc2_new _ _ _⟩
  case round =>
    obtain ⟨k, hk, rfl, he, hR, hV⟩ := hrel
    by_cases hlt : k < 16
    · have c0 := hc (4 * k) (by omega)
      have c1 := hc (4 * k + 1) (by omega)
      have c2 := hc (4 * k + 2) (by omega)
      have c3 := hc (4 * k + 3) (by omega)
      rw [← he.cell _ _ hb] at c0 c1 c2 c3
      have hbr : b < wr.heap.size := Nat.lt_of_lt_of_le hb he.size
      have hVr : w.heap.size + 1 < wr.heap.size := (Array.getElem?_eq_some_iff.1 hV).1
      have HE := Lib.hid he
      have HR := Lib.hid hR
      have HV := Lib.hid hV
      clear he hR hV hc hl
      go_wp2
      refine wp_region_qxt 35 (by kernel_rfl) (by kernel_rfl) ?_
      simp only [List.take_succ_cons, List.take_zero, List.drop_succ_cons, List.drop_zero]
      repeat (go_big_quiet_step (fail))
      refine wpQuiet_nil ?_
      intro x
      have he1 := ext_ext wr x
      have hV1 := ext_heap wr x _ hVr
      rw [HV.out] at hV1
      generalize wr.ext x = w1 at *
      have HE1 := Lib.hid he1
      have HV1 := Lib.hid hV1
      have hc1 : w1.cell? ⟨w.heap.size + 1, k, none⟩ = some z32 := row32_zero hV1 (by rw [Sha.words_length]; omega) (by omega)
      have hf1 : w1.frozen? ⟨w.heap.size + 1, k, none⟩ = false := frozen_of_row _ _ _ _ _ hV1
      clear he1 hV1  c0 c1 c2 c3 hbr
      go_wp2
      go_roundw
      case rel =>
        refine ⟨k + 1, by omega, by go_num, ?_, ?_, ?_⟩
        · exact (HE.out.trans HE1.out).setCell_new (by simp) (by simp)
        · rw [heap_setCell_other _ _ _ _ (by simp), HE1.out.block (Nat.lt_trans (Nat.lt_succ_self _) hVr)]; exact HR.out
        · rw [heap_setCell_same _ _ _ _ _ _ HV1.out]
          have h := row32_push (n := 64) (l := Sha.words l k) (Sha.nxt l (Sha.words l k) k) (by rw [Sha.words_length]; omega)
          rw [Sha.words_length] at h
          show some (Obj.cells _ 98 (0, 0)) = some (Obj.cells (row32 64 (Sha.words l k ++ [Sha.nxt l (Sha.words l k) k])) 98 (0, 0))
          rw [← h]
          simp only [Sha.nxt, hlt, if_true]
          rfl
      case measure => simp [intOf]; omega
    · have hk16 : k = 16 := by omega
      subst hk16
      have HE := Lib.hid he
      have HR := Lib.hid hR
      have HV := Lib.hid hV
      clear he hR hV hc hl hlt hk
      go_wp2
      go_loopw [5] (fun i wr => ∃ k : Nat, 16 ≤ k ∧ k ≤ 64 ∧ i = .int .i64 k ∧ Ext w wr ∧ wr.heap[w.heap.size]? = some (.cells (row32 64 []) 98 (0, 0)) ∧ wr.heap[w.heap.size + 1]? = some (.cells (row32 64 (Sha.words l k)) 98 (0, 0)))
        (fun i _ => 64 - (intOf i).toNat)
      case atStart => exact ⟨16, by omega, by omega, rfl, HE.out, HR.out, HV.out⟩
      case round =>
        clear HE HR HV
        obtain ⟨k, hk1, hk2, rfl, he, hR, hV⟩ := hrel
        by_cases hlt : k < 64
        · have hVr : w.heap.size + 1 < wr.heap.size := (Array.getElem?_eq_some_iff.1 hV).1
          have hlen := Sha.words_length l k
          have cell : ∀ j, j < k → wr.cell? ⟨w.heap.size + 1, j, none⟩ = some (W32 ((Sha.words l k).getD j 0)) := fun j hj => by
            rw [cell_of_row _ _ _ _ _ _ hV]; exact row32_get (by omega)
          have c15 := cell (k - 15) (by omega)
          have c2 := cell (k - 2) (by omega)
          have c16 := cell (k - 16) (by omega)
          have c7 := cell (k - 7) (by omega)
          have HE := Lib.hid he
          have HR := Lib.hid hR
          have HV := Lib.hid hV
          clear he hR hV cell hlen
          go_wp2
          refine wp_region_qx (by kernel_rfl) (by kernel_rfl) ?_
          repeat (go_big_quiet_step (fail))
          refine wpQuiet_nil ?_
          intro x
          have he1 := ext_ext wr x
          have d15 := (cell?_ext wr x _ (k - 15) hVr).trans c15
          have d2 := (cell?_ext wr x _ (k - 2) hVr).trans c2
          have d16 := (cell?_ext wr x _ (k - 16) hVr).trans c16
          have d7 := (cell?_ext wr x _ (k - 7) hVr).trans c7
          generalize wr.ext x = w1 at *
          have h1s : w.heap.size + 1 < w1.heap.size := Nat.lt_of_lt_of_le hVr he1.size
          have HE1 := Lib.hid he1
          clear he1 c15 c2 c16 c7
          go_wp2
          refine wp_region_qxt 29 (by kernel_rfl) (by kernel_rfl) ?_
          simp only [List.take_succ_cons, List.take_zero, List.drop_succ_cons, List.drop_zero]
          repeat (go_big_quiet_step (exact Calls.in_ext_same (right_c _ _ (by decide) (by decide) _)))
          refine wpQuiet_nil ?_
          intro y
          have he2 := ext_ext w1 y
          have hV2 : (w1.ext y).heap[w.heap.size + 1]? = some (.cells (row32 64 (Sha.words l k)) 98 (0, 0)) := by
            rw [ext_heap w1 y _ h1s, HE1.out.block hVr]; exact HV.out
          have hR2 : (w1.ext y).heap[w.heap.size]? = some (.cells (row32 64 []) 98 (0, 0)) := by
            rw [ext_heap w1 y _ (by omega), HE1.out.block (by omega)]; exact HR.out
          generalize w1.ext y = w2 at *
          have hc1 : w2.cell? ⟨w.heap.size + 1, k, none⟩ = some z32 := row32_zero hV2 (by rw [Sha.words_length]; omega) (by omega)
          have hf1 : w2.frozen? ⟨w.heap.size + 1, k, none⟩ = false := frozen_of_row _ _ _ _ _ hV2
          have HE2 := Lib.hid he2
          have HV2 := Lib.hid hV2
          have HR2 := Lib.hid hR2
          clear he2 hV2 hR2 d15 d2 d16 d7
          go_wp2
          go_roundw
          case rel =>
            refine ⟨k + 1, by omega, by omega, by go_num, ?_, ?_, ?_⟩
            · exact ((HE.out.trans HE1.out).trans HE2.out).setCell_new trivial (by simp)
            · rw [heap_setCell_other _ _ _ _ (by simp)]; exact HR2.out
            · rw [heap_setCell_same _ _ _ _ _ _ HV2.out]
              have h := row32_push (n := 64) (l := Sha.words l k) (Sha.nxt l (Sha.words l k) k) (by rw [Sha.words_length]; omega)
              rw [Sha.words_length] at h
              show some (Obj.cells _ 98 (0, 0)) = some (Obj.cells (row32 64 (Sha.words l k ++ [Sha.nxt l (Sha.words l k) k])) 98 (0, 0))
              rw [← h]
              simp only [Sha.nxt, show ¬ k < 16 by omega, if_false, u32_shr3, u32_shr10, u32_xor, u32_add, m32_add]
              rfl
          case measure => simp [intOf]; omega
        · have hk64 : k = 64 := by omega
          subst hk64
          have HE := Lib.hid he
          have HR := Lib.hid hR
          have HV := Lib.hid hV
          clear he hR hV hlt hk1 hk2
          go_wp2_with (first | (refine wpl_load98 rfl _ rfl _ rfl _ (Nat.le_of_eq (Sha.words_length l 64)) HV.out ?_) | (refine wpl_store98 rfl _ _ rfl _ _ _ rfl rfl (Nat.le_of_eq (Sha.words_length l 64)) (by decide) HR.out ?_))
          exact ret98 rfl w.heap.size _ (Nat.le_of_eq (Sha.words_length l 64)) rfl (setRow_heap _ _ _ _ _ _ HR.out) rfl ⟨rfl, HE.out.setRow_new (Nat.le_refl _) _⟩
end Go.Proofs.Ytapojpjmeadabaa

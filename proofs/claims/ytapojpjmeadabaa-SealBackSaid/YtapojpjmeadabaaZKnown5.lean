/- Known5: several texts in one. -/
import Derived.Test.YtapojpjmeadabaaZEach
section
/- sum.Less where the first bytes differ; sacristanlaw05.known. -/
namespace Go.Proofs.Ytapojpjmeadabaa
open Go.RowKit
set_option linter.unusedVariables false
set_option linter.unusedSimpArgs false
attribute [local go_sem] lt_ext cell?_ext frozen?_ext shape?_ext

theorem run_index27 (l : List UInt8) (k : Nat) (hk : k < l.length) (hl : l.length = 32) (w : World) : (Instr.index 27 (Dig l) (.int .i64 (k : Int))).run Try.prog w = .ok (B8 (l.getD k 0)) w := by
  have hc := row8_get hk
  simp [go_sem, Instr.index, hc]
  omega
set_option maxRecDepth 100000 in
set_option maxHeartbeats 1000000 in
theorem less_first (A B : List UInt8) (x y : UInt8) (hA : A.length = 32) (hB : B.length = 32) (hx : A.getD 0 0 = x) (hy : B.getD 0 0 = y) (h : x.toNat < y.toNat) (w : World) :
    Calls Try.prog 96 #[Dig A, Dig B] w fun e w' => e = .returned (.bool true) ∧ Ext w w' := by
  have hix : ∀ w, (Instr.index 27 (Dig A) (.int .i64 0)).run Try.prog w = .ok (B8 x) w := fun w => by rw [← hx]; exact run_index27 A 0 (by omega) hA w
  have hlt : i8 x < i8 y := by unfold i8; omega
  have hne : ¬ i8 x = i8 y := by omega
  have HA := Lib.hid hA
  have HB := Lib.hid hB
  have HIX := Lib.hid hix
  have hP : Blk ((w.alloc (.cells (row8 A) 27)).alloc (.cells (row8 B) 27)) w.heap.size 27 A := (((Ext.refl (w.alloc (.cells (row8 A) 27))).alloc (.cells (row8 B) 27)).block (by simp)).trans (heap_alloc_last w _)
  have hQ : Blk ((w.alloc (.cells (row8 A) 27)).alloc (.cells (row8 B) 27)) (w.heap.size + 1) 27 B := by
    have h := heap_alloc_last (w.alloc (.cells (row8 A) 27)) (.cells (row8 B) 27)
    rw [World.size_alloc] at h
    exact h
  have hX : Ext w ((w.alloc (.cells (row8 A) 27)).alloc (.cells (row8 B) 27)) := ((Ext.refl w).alloc _).alloc _
  have hcb := hQ.cell 0 (by omega)
  rw [hy] at hcb
  have HP := Lib.hid hP
  have HX := Lib.hid hX
  have HCB := Lib.hid hcb
  clear hP hQ hX hcb hix hx hy hA hB h
  go_enter Try.func96, Try.ntmps96
  go_wp2_with (refine wpl_load27 rfl _ rfl w.heap.size rfl A HA.out HP.out ?_)
  have hcb := HCB.out
  generalize (w.alloc (.cells (row8 A) 27)).alloc (.cells (row8 B) 27) = w0 at *
  have hix := HIX.out
  go_loopw [8] (fun i wr => i = .int .i64 0 ∧ wr = w0) (fun _ _ => 0)
  case atStart => exact ⟨rfl, rfl⟩
  case round =>
    obtain ⟨rfl, rfl⟩ := hrel
    go_wp2
    go_ret
    exact ⟨rfl, HX.out⟩
def mostK (k : Nat) : List UInt8 := List.replicate k 255 ++ Sha.zeros (32 - k)
theorem mostK_length (k : Nat) (hk : k ≤ 32) : (mostK k).length = 32 := by simp [mostK, Sha.zeros]; omega
theorem mostK_next (k : Nat) (hk : k < 32) : (mostK k).set k 255 = mostK (k + 1) := by
  unfold mostK
  rw [List.set_append_right _ _ (by simp), List.length_replicate, Nat.sub_self]
  obtain ⟨m, hm⟩ : ∃ m, 32 - k = m + 1 := ⟨31 - k, by omega⟩
  rw [hm, show 32 - (k + 1) = m by omega, List.replicate_succ', List.append_assoc]
  simp [Sha.zeros, List.replicate_succ]
set_option maxRecDepth 100000 in
set_option maxHeartbeats 1000000 in
theorem known5_of (Z M O : List UInt8) (hZ : Hid (Z = Sha.zeros 32)) (hM : Hid (M = mostK 32)) (hO : Hid (O = (Sha.zeros 32).set 31 1)) (hadd : Hid (addD M O = Z)) (hsub : Hid (subD Z O = M)) (w : World) :
    Calls Try.prog 54 #[] w fun e w' => e = .returned (.bool true) ∧ Ext w w' := by
  have HZl : Hid (Z.length = 32) := Lib.hid (by rw [hZ.out]; simp [Sha.zeros])
  have HMl : Hid (M.length = 32) := Lib.hid (by rw [hM.out]; exact mostK_length 32 (by omega))
  have HOl : Hid (O.length = 32) := Lib.hid (by rw [hO.out]; simp [Sha.zeros])
  have HLS : Hid (O.getD 0 0 = 0 ∧ M.getD 0 0 = 255) := Lib.hid (by rw [hO.out, hM.out]; exact ⟨rfl, rfl⟩)
  go_enter Try.func54, Try.ntmps54
  have TA : True := trivial
  go_wp2_with (first | (refine wpl_exec rfl (Dig Z) (by rw [hZ.out]; exact exec_build27 rfl _) ?_) | (refine wpl_alloc_agg rfl 27 rfl _ zero27.1 ?_; rw [← hZ.out]) | (clear TA; refine wpl_store27 rfl _ _ rfl w.heap.size Z Z rfl rfl HZl.out HZl.out (heap_alloc_last w _) ?_; intro w2 h2 hu2; have H2 := Lib.hid h2; have HX2 := Lib.hid (((Ext.refl w).alloc _).upd_new hu2 (Nat.le_refl _)); have hl2 : w.heap.size < w2.heap.size := Blk.lt h2; clear h2 hu2) | (refine wpl_store27 rfl _ _ rfl w2.heap.size Z Z rfl rfl HZl.out HZl.out (heap_alloc_last w2 _) ?_; intro w3 h3 hu3; have H3 := Lib.hid h3; have HX3 := Lib.hid (((Ext.refl w2).alloc _).upd_new hu3 (Nat.le_refl _)); have hl3 : w2.heap.size < w3.heap.size := Blk.lt h3; have hc31 := Blk.cell h3 31 (by have := HZl.out; omega); have hf31 := Blk.frozen h3 31; clear h3 hu3))
  have hOb : Blk (w3.setCell ⟨w2.heap.size, 31, none⟩ (.int .u8 1)) w2.heap.size 27 O := by
    have h := Blk.set H3.out 31 1
    rw [hZ.out, ← hO.out] at h
    exact h
  have hMb : Blk (w3.setCell ⟨w2.heap.size, 31, none⟩ (.int .u8 1)) w.heap.size 27 (mostK 0) := by
    refine other_cell ((HX3.out.block hl2).trans ?_) (by omega)
    have h := H2.out
    rw [hZ.out] at h
    exact h
  have hxx : Ext w (w3.setCell ⟨w2.heap.size, 31, none⟩ (.int .u8 1)) := Ext.setCell_new (HX2.out.trans HX3.out) trivial (Nat.le_of_lt hl2)
  have HOb := Lib.hid hOb
  have HMb := Lib.hid hMb
  have HXX := Lib.hid hxx
  clear hOb hMb hxx H2 H3 HX2 HX3 hc31 hf31
  obtain ⟨p, hp⟩ : ∃ p, w2.heap.size = p := ⟨_, rfl⟩
  rw [hp] at HOb HMb HXX hl2 hl3 ⊢
  clear hp
  generalize w3.setCell ⟨p, 31, none⟩ (.int .u8 1) = w4 at *
  go_loopw [3] (fun i wr => ∃ k : Nat, k ≤ 32 ∧ i = .int .i64 k ∧ Blk wr w.heap.size 27 (mostK k) ∧ Blk wr p 27 O ∧ Ext w wr) (fun i _ => 32 - (intOf i).toNat)
  case atStart => exact ⟨0, by omega, rfl, HMb.out, HOb.out, HXX.out⟩
  case round =>
    obtain ⟨k, hk, rfl, hM1, hO1, hx1⟩ := hrel
    have HM1 := Lib.hid hM1
    have HO1 := Lib.hid hO1
    have HX1 := Lib.hid hx1
    by_cases hlt : k < 32
    · have hc := hM1.cell k (by rw [mostK_length k hk]; exact hlt)
      have hf := hM1.frozen k
      have hl := hM1.lt
      generalize (mostK k).getD k 0 = old at *
      clear hM1 hO1 hx1
      go_wp2
      go_roundw
      case rel => exact ⟨k + 1, by omega, by go_num, by rw [← mostK_next k hlt]; exact Blk.set HM1.out k 255, other_cell HO1.out (by omega), Ext.setCell_new HX1.out trivial (Nat.le_refl _)⟩
      case measure => simp [intOf]; omega
    · obtain rfl : k = 32 := by omega
      rw [← hM.out] at HM1
      clear hM1 hO1 hx1 HMb HOb HXX
      go_wp2
      refine wp_region_m (by kernel_rfl) (by kernel_rfl) ?_; try simp only [Act.put, List.setIfInBounds_toArray, List.set_cons_succ, List.set_cons_zero]
      refine gx rfl rfl rfl rfl (Dig M) (fun y => exec_load27 (.tmp 1) rfl w.heap.size rfl M HMl.out _ (Blk.ext HM1.out (ext_ext wr y))) ?_
      simp only [Act.put, List.setIfInBounds_toArray, List.set_cons_succ, List.set_cons_zero]
      refine gx rfl rfl rfl rfl (Dig O) (fun y => exec_load27 (.tmp 2) rfl p rfl O HOl.out _ (Blk.ext HO1.out (ext_ext wr y))) ?_
      simp only [Act.put, List.setIfInBounds_toArray, List.set_cons_succ, List.set_cons_zero]
      refine gc rfl rfl rfl rfl 59 #[Dig M, Dig O] (fun _ => by go_simp) (Dig Z) (fun y => by have h := add_any M O HMl.out HOl.out (wr.ext y); rw [hadd.out] at h; exact h) ?_
      simp only [Act.put, List.setIfInBounds_toArray, List.set_cons_succ, List.set_cons_zero]
      refine ge rfl rfl rfl rfl (Dig Z) (fun w => by rw [hZ.out]; exact exec_build27 rfl w) ?_
      simp only [Act.put, List.setIfInBounds_toArray, List.set_cons_succ, List.set_cons_zero]
      refine ge rfl rfl rfl rfl _ (exec_eq27 _ _ _ rfl Z Z rfl rfl HZl.out HZl.out) ?_
      simp only [decide_true]
      simp only [Act.put, List.setIfInBounds_toArray, List.set_cons_succ, List.set_cons_zero]
      refine gq rfl rfl rfl rfl (fun K hK => ?_); go_big_quiet_op; refine hK _ ?_; clear hK K
      refine ge rfl rfl rfl rfl (Dig Z) (fun w => by rw [hZ.out]; exact exec_build27 rfl w) ?_
      simp only [Act.put, List.setIfInBounds_toArray, List.set_cons_succ, List.set_cons_zero]
      refine gx rfl rfl rfl rfl (Dig O) (fun y => exec_load27 (.tmp 2) rfl p rfl O HOl.out _ (Blk.ext HO1.out (ext_ext wr y))) ?_
      simp only [Act.put, List.setIfInBounds_toArray, List.set_cons_succ, List.set_cons_zero]
      refine gc rfl rfl rfl rfl 60 #[Dig Z, Dig O] (fun _ => by go_simp) (Dig M) (fun y => by have h := sub_any Z O HZl.out HOl.out (wr.ext y); rw [hsub.out] at h; exact h) ?_
      simp only [Act.put, List.setIfInBounds_toArray, List.set_cons_succ, List.set_cons_zero]
      refine gx rfl rfl rfl rfl (Dig M) (fun y => exec_load27 (.tmp 1) rfl w.heap.size rfl M HMl.out _ (Blk.ext HM1.out (ext_ext wr y))) ?_
      simp only [Act.put, List.setIfInBounds_toArray, List.set_cons_succ, List.set_cons_zero]
      refine ge rfl rfl rfl rfl _ (exec_eq27 _ _ _ rfl M M rfl rfl HMl.out HMl.out) ?_
      simp only [decide_true]
      simp only [Act.put, List.setIfInBounds_toArray, List.set_cons_succ, List.set_cons_zero]
      refine gq rfl rfl rfl rfl (fun K hK => ?_); go_big_quiet_op; refine hK _ ?_; clear hK K
      refine gq rfl rfl rfl rfl (fun K hK => ?_); go_big_quiet_op; refine hK _ ?_; clear hK K
      refine gx rfl rfl rfl rfl (Dig O) (fun y => exec_load27 (.tmp 2) rfl p rfl O HOl.out _ (Blk.ext HO1.out (ext_ext wr y))) ?_
      simp only [Act.put, List.setIfInBounds_toArray, List.set_cons_succ, List.set_cons_zero]
      refine gx rfl rfl rfl rfl (Dig M) (fun y => exec_load27 (.tmp 1) rfl w.heap.size rfl M HMl.out _ (Blk.ext HM1.out (ext_ext wr y))) ?_
      simp only [Act.put, List.setIfInBounds_toArray, List.set_cons_succ, List.set_cons_zero]
      refine gc rfl rfl rfl rfl 96 #[Dig O, Dig M] (fun _ => by go_simp) (.bool true) (fun y => less_first O M 0 255 HOl.out HMl.out HLS.out.1 HLS.out.2 (by decide) (wr.ext y)) ?_
      simp only [Act.put, List.setIfInBounds_toArray, List.set_cons_succ, List.set_cons_zero]
      refine gq rfl rfl rfl rfl (fun K hK => ?_); go_big_quiet_op; refine hK _ ?_; clear hK K
      refine gq rfl rfl rfl rfl (fun K hK => ?_); go_big_quiet_op; refine hK _ ?_; clear hK K
      refine gm_end_at rfl [] rfl (fun xs y hk => ?_)
      clear hk
      simp only [fillM, Act.put, List.setIfInBounds_toArray, List.set_cons_succ, List.set_cons_zero]
      go_wp2
      go_ret
      exact ⟨rfl, HX1.out.trans (ext_ext wr y)⟩
theorem known5_any (w : World) : Calls Try.prog 54 #[] w fun e w' => e = .returned (.bool true) ∧ Ext w w' :=
  known5_of _ _ _ (Lib.hid rfl) (Lib.hid rfl) (Lib.hid rfl) (Lib.hid (by decide +kernel)) (Lib.hid (by decide +kernel)) w
end Go.Proofs.Ytapojpjmeadabaa
end

/- Known5, Sofs, Itown: several texts in one. -/
import Derived.Test.YtapojpjmeadabaaZEach
section
/- sum.Less where the first bytes differ; sacristanlaw05.known. -/
namespace Go.Proofs.Ytapojpjmeadabaa
open Go.RowKit
set_option linter.unusedVariables false
set_option linter.unusedSimpArgs false
attribute [local go_sem] lt_ext cell?_ext frozen?_ext shape?_ext

theorem run_index27 (l : List UInt8) (k : Nat) (hk : k < l.length) (hl : l.length = 32) (w : World) : (Instr.index 27 (Dig l) (.int .i64 (k : Int))).run Try.prog w = .ok (B8 (l.getD k 0)) w := by
  have hc := row8_get hk
  simp [go_sem, Instr.index, hc]
  omega
set_option maxRecDepth 100000 in
set_option maxHeartbeats 1000000 in
theorem less_first (A B : List UInt8) (x y : UInt8) (hA : A.length = 32) (hB : B.length = 32) (hx : A.getD 0 0 = x) (hy : B.getD 0 0 = y) (h : x.toNat < y.toNat) (w : World) :
    Calls Try.prog 96 #[Dig A, Dig B] w fun e w' => e = .returned (.bool true) ∧ Ext w w' := by
  have hix : ∀ w, (Instr.index 27 (Dig A) (.int .i64 0)).run Try.prog w = .ok (B8 x) w := fun w => by rw [← hx]; exact run_index27 A 0 (by omega) hA w
  have hlt : i8 x < i8 y := by unfold i8; omega
  have hne : ¬ i8 x = i8 y := by omega
  have HA := Lib.hid hA
  have HB := Lib.hid hB
  have HIX := Lib.hid hix
  have hP : Blk ((w.alloc (.cells (row8 A) 27)).alloc (.cells (row8 B) 27)) w.heap.size 27 A := (((Ext.refl (w.alloc (.cells (row8 A) 27))).alloc (.cells (row8 B) 27)).block (by simp)).trans (heap_alloc_last w _)
  have hQ : Blk ((w.alloc (.cells (row8 A) 27)).alloc (.cells (row8 B) 27)) (w.heap.size + 1) 27 B := by
    have h := heap_alloc_last (w.alloc (.cells (row8 A) 27)) (.cells (row8 B) 27)
    rw [World.size_alloc] at h
    exact h
  have hX : Ext w ((w.alloc (.cells (row8 A) 27)).alloc (.cells (row8 B) 27)) := ((Ext.refl w).alloc _).alloc _
  have hcb := hQ.cell 0 (by omega)
  rw [hy] at hcb
  have HP := Lib.hid hP
  have HX := Lib.hid hX
  have HCB := Lib.hid hcb
  clear hP hQ hX hcb hix hx hy hA hB h
  go_enter Try.func96, Try.ntmps96
  go_wp2_with (refine wpl_load27 rfl _ rfl w.heap.size rfl A HA.out HP.out ?_)
  have hcb := HCB.out
  generalize (w.alloc (.cells (row8 A) 27)).alloc (.cells (row8 B) 27) = w0 at *
  have hix := HIX.out
  go_loopw [8] (fun i wr => i = .int .i64 0 ∧ wr = w0) (fun _ _ => 0)
  case atStart => exact ⟨rfl, rfl⟩
  case round =>
    obtain ⟨rfl, rfl⟩ := hrel
    go_wp2
    go_ret
    exact ⟨rfl, HX.out⟩
def mostK (k : Nat) : List UInt8 := List.replicate k 255 ++ Sha.zeros (32 - k)
theorem mostK_length (k : Nat) (hk : k ≤ 32) : (mostK k).length = 32 := by simp [mostK, Sha.zeros]; omega
theorem mostK_next (k : Nat) (hk : k < 32) : (mostK k).set k 255 = mostK (k + 1) := by
  unfold mostK
  rw [List.set_append_right _ _ (by simp), List.length_replicate, Nat.sub_self]
  obtain ⟨m, hm⟩ : ∃ m, 32 - k = m + 1 := ⟨31 - k, by omega⟩
  rw [hm, show 32 - (k + 1) = m by omega, List.replicate_succ', List.append_assoc]
  simp [Sha.zeros, List.replicate_succ]
set_option maxRecDepth 100000 in
set_option maxHeartbeats 1000000 in
theorem known5_of (Z M O : List UInt8) (hZ : Hid (Z = Sha.zeros 32)) (hM : Hid (M = mostK 32)) (hO : Hid (O = (Sha.zeros 32).set 31 1)) (hadd : Hid (addD M O = Z)) (hsub : Hid (subD Z O = M)) (w : World) :
    Calls Try.prog 54 #[] w fun e w' => e = .returned (.bool true) ∧ Ext w w' := by
  have HZl : Hid (Z.length = 32) := Lib.hid (by rw [hZ.out]; simp [Sha.zeros])
  have HMl : Hid (M.length = 32) := Lib.hid (by rw [hM.out]; exact mostK_length 32 (by omega))
  have HOl : Hid (O.length = 32) := Lib.hid (by rw [hO.out]; simp [Sha.zeros])
  have HLS : Hid (O.getD 0 0 = 0 ∧ M.getD 0 0 = 255) := Lib.hid (by rw [hO.out, hM.out]; exact ⟨rfl, rfl⟩)
  go_enter Try.func54, Try.ntmps54
  have TA : True := trivial
  go_wp2_with (first | (refine wpl_exec rfl (Dig Z) (by rw [hZ.out]; exact exec_build27 rfl _) ?_) | (refine wpl_alloc_agg rfl 27 rfl _ zero27.1 ?_; rw [← hZ.out]) | (clear TA; refine wpl_store27 rfl _ _ rfl w.heap.size Z Z rfl rfl HZl.out HZl.out (heap_alloc_last w _) ?_; intro w2 h2 hu2; have H2 := Lib.hid h2; have HX2 := Lib.hid (((Ext.refl w).alloc _).upd_new hu2 (Nat.le_refl _)); have hl2 : w.heap.size < w2.heap.size := Blk.lt h2; clear h2 hu2) | (refine wpl_store27 rfl _ _ rfl w2.heap.size Z Z rfl rfl HZl.out HZl.out (heap_alloc_last w2 _) ?_; intro w3 h3 hu3; have H3 := Lib.hid h3; have HX3 := Lib.hid (((Ext.refl w2).alloc _).upd_new hu3 (Nat.le_refl _)); have hl3 : w2.heap.size < w3.heap.size := Blk.lt h3; have hc31 := Blk.cell h3 31 (by have := HZl.out; omega); have hf31 := Blk.frozen h3 31; clear h3 hu3))
  have hOb : Blk (w3.setCell ⟨w2.heap.size, 31, none⟩ (.int .u8 1)) w2.heap.size 27 O := by
    have h := Blk.set H3.out 31 1
    rw [hZ.out, ← hO.out] at h
    exact h
  have hMb : Blk (w3.setCell ⟨w2.heap.size, 31, none⟩ (.int .u8 1)) w.heap.size 27 (mostK 0) := by
    refine other_cell ((HX3.out.block hl2).trans ?_) (by omega)
    have h := H2.out
    rw [hZ.out] at h
    exact h
  have hxx : Ext w (w3.setCell ⟨w2.heap.size, 31, none⟩ (.int .u8 1)) := Ext.setCell_new (HX2.out.trans HX3.out) trivial (Nat.le_of_lt hl2)
  have HOb := Lib.hid hOb
  have HMb := Lib.hid hMb
  have HXX := Lib.hid hxx
  clear hOb hMb hxx H2 H3 HX2 HX3 hc31 hf31
  obtain ⟨p, hp⟩ : ∃ p, w2.heap.size = p := ⟨_, rfl⟩
  rw [hp] at HOb HMb HXX hl2 hl3 ⊢
  clear hp
  generalize w3.setCell ⟨p, 31, none⟩ (.int .u8 1) = w4 at *
  go_loopw [3] (fun i wr => ∃ k : Nat, k ≤ 32 ∧ i = .int .i64 k ∧ Blk wr w.heap.size 27 (mostK k) ∧ Blk wr p 27 O ∧ Ext w wr) (fun i _ => 32 - (intOf i).toNat)
  case atStart => exact ⟨0, by omega, rfl, HMb.out, HOb.out, HXX.out⟩
  case round =>
    obtain ⟨k, hk, rfl, hM1, hO1, hx1⟩ := hrel
    have HM1 := Lib.hid hM1
    have HO1 := Lib.hid hO1
    have HX1 := Lib.hid hx1
    by_cases hlt : k < 32
    · have hc := hM1.cell k (by rw [mostK_length k hk]; exact hlt)
      have hf := hM1.frozen k
      have hl := hM1.lt
      generalize (mostK k).getD k 0 = old at *
      clear hM1 hO1 hx1
      go_wp2
      go_roundw
      case rel => exact ⟨k + 1, by omega, by go_num, by rw [← mostK_next k hlt]; exact Blk.set HM1.out k 255, other_cell HO1.out (by omega), Ext.setCell_new HX1.out trivial (Nat.le_refl _)⟩
      case measure => simp [intOf]; omega
    · obtain rfl : k = 32 := by omega
      rw [← hM.out] at HM1
      clear hM1 hO1 hx1 HMb HOb HXX
      go_wp2
      refine wp_region_m (by kernel_rfl) (by kernel_rfl) ?_; try simp only [Act.put, List.setIfInBounds_toArray, List.set_cons_succ, List.set_cons_zero]
      refine gx rfl rfl rfl rfl (Dig M) (fun y => exec_load27 (.tmp 1) rfl w.heap.size rfl M HMl.out _ (Blk.ext HM1.out (ext_ext wr y))) ?_
      simp only [Act.put, List.setIfInBounds_toArray, List.set_cons_succ, List.set_cons_zero]
      refine gx rfl rfl rfl rfl (Dig O) (fun y => exec_load27 (.tmp 2) rfl p rfl O HOl.out _ (Blk.ext HO1.out (ext_ext wr y))) ?_
      simp only [Act.put, List.setIfInBounds_toArray, List.set_cons_succ, List.set_cons_zero]
      refine gc rfl rfl rfl rfl 59 #[Dig M, Dig O] (fun _ => by go_simp) (Dig Z) (fun y => by have h := add_any M O HMl.out HOl.out (wr.ext y); rw [hadd.out] at h; exact h) ?_
      simp only [Act.put, List.setIfInBounds_toArray, List.set_cons_succ, List.set_cons_zero]
      refine ge rfl rfl rfl rfl (Dig Z) (fun w => by rw [hZ.out]; exact exec_build27 rfl w) ?_
      simp only [Act.put, List.setIfInBounds_toArray, List.set_cons_succ, List.set_cons_zero]
      refine ge rfl rfl rfl rfl _ (exec_eq27 _ _ _ rfl Z Z rfl rfl HZl.out HZl.out) ?_
      simp only [decide_true]
      simp only [Act.put, List.setIfInBounds_toArray, List.set_cons_succ, List.set_cons_zero]
      refine gq rfl rfl rfl rfl (fun K hK => ?_); go_big_quiet_op; refine hK _ ?_; clear hK K
      refine ge rfl rfl rfl rfl (Dig Z) (fun w => by rw [hZ.out]; exact exec_build27 rfl w) ?_
      simp only [Act.put, List.setIfInBounds_toArray, List.set_cons_succ, List.set_cons_zero]
      refine gx rfl rfl rfl rfl (Dig O) (fun y => exec_load27 (.tmp 2) rfl p rfl O HOl.out _ (Blk.ext HO1.out (ext_ext wr y))) ?_
      simp only [Act.put, List.setIfInBounds_toArray, List.set_cons_succ, List.set_cons_zero]
      refine gc rfl rfl rfl rfl 60 #[Dig Z, Dig O] (fun _ => by go_simp) (Dig M) (fun y => by have h := sub_any Z O HZl.out HOl.out (wr.ext y); rw [hsub.out] at h; exact h) ?_
      simp only [Act.put, List.setIfInBounds_toArray, List.set_cons_succ, List.set_cons_zero]
      refine gx rfl rfl rfl rfl (Dig M) (fun y => exec_load27 (.tmp 1) rfl w.heap.size rfl M HMl.out _ (Blk.ext HM1.out (ext_ext wr y))) ?_
      simp only [Act.put, List.setIfInBounds_toArray, List.set_cons_succ, List.set_cons_zero]
      refine ge rfl rfl rfl rfl _ (exec_eq27 _ _ _ rfl M M rfl rfl HMl.out HMl.out) ?_
      simp only [decide_true]
      simp only [Act.put, List.setIfInBounds_toArray, List.set_cons_succ, List.set_cons_zero]
      refine gq rfl rfl rfl rfl (fun K hK => ?_); go_big_quiet_op; refine hK _ ?_; clear hK K
      refine gq rfl rfl rfl rfl (fun K hK => ?_); go_big_quiet_op; refine hK _ ?_; clear hK K
      refine gx rfl rfl rfl rfl (Dig O) (fun y => exec_load27 (.tmp 2) rfl p rfl O HOl.out _ (Blk.ext HO1.out (ext_ext wr y))) ?_
      simp only [Act.put, List.setIfInBounds_toArray, List.set_cons_succ, List.set_cons_zero]
      refine gx rfl rfl rfl rfl (Dig M) (fun y => exec_load27 (.tmp 1) rfl w.heap.size rfl M HMl.out _ (Blk.ext HM1.out (ext_ext wr y))) ?_
      simp only [Act.put, List.setIfInBounds_toArray, List.set_cons_succ, List.set_cons_zero]
      refine gc rfl rfl rfl rfl 96 #[Dig O, Dig M] (fun _ => by go_simp) (.bool true) (fun y => less_first O M 0 255 HOl.out HMl.out HLS.out.1 HLS.out.2 (by decide) (wr.ext y)) ?_
      simp only [Act.put, List.setIfInBounds_toArray, List.set_cons_succ, List.set_cons_zero]
      refine gq rfl rfl rfl rfl (fun K hK => ?_); go_big_quiet_op; refine hK _ ?_; clear hK K
      refine gq rfl rfl rfl rfl (fun K hK => ?_); go_big_quiet_op; refine hK _ ?_; clear hK K
      refine gm_end_at rfl [] rfl (fun xs y hk => ?_)
      clear hk
      simp only [fillM, Act.put, List.setIfInBounds_toArray, List.set_cons_succ, List.set_cons_zero]
      go_wp2
      go_ret
      exact ⟨rfl, HX1.out.trans (ext_ext wr y)⟩
theorem known5_any (w : World) : Calls Try.prog 54 #[] w fun e w' => e = .returned (.bool true) ∧ Ext w w' :=
  known5_of _ _ _ (Lib.hid rfl) (Lib.hid rfl) (Lib.hid rfl) (Lib.hid (by decide +kernel)) (Lib.hid (by decide +kernel)) w
end Go.Proofs.Ytapojpjmeadabaa
end

section
/- sacristanlaw05.SumOfs. -/
namespace Go.Proofs.Ytapojpjmeadabaa
open Go.RowKit
set_option linter.unusedVariables false
set_option linter.unusedSimpArgs false
attribute [local go_sem] lt_ext cell?_ext frozen?_ext shape?_ext

theorem longN_bound (xs : List It) (B : Nat) (h : ∀ x ∈ xs, x.b.length ≤ B) : longN xs ≤ xs.length * (B + 1) := by
  have key : ∀ (b : List It) (n : Nat), (∀ x ∈ b, x.b.length ≤ B) → b.foldl (fun n x => n + 1 + x.b.length) n ≤ n + b.length * (B + 1) := by
    intro b
    induction b with
    | nil => intro n _; simp
    | cons x r ih =>
      intro n hb
      have h1 := hb x (by simp)
      have h2 := ih (n + 1 + x.b.length) (fun y hy => hb y (by simp [hy]))
      simp only [List.foldl_cons, List.length_cons, Nat.add_mul] at h2 ⊢
      omega
  have := key xs 0 h
  unfold longN
  omega
theorem its_small {xs : List It} (hz : ∀ x ∈ xs, x.b.length ≤ 140737488355328) (hl : xs.length ≤ 20) : longN xs ≤ 4294967296 * 4294967296 / 4 := by
  have h1 := longN_bound xs 140737488355328 hz
  have h2 : xs.length * (140737488355328 + 1) ≤ 20 * (140737488355328 + 1) := Nat.mul_le_mul_right _ hl
  omega
set_option maxRecDepth 100000 in
set_option maxHeartbeats 2000000 in
theorem sumofs_any (kv bv lv : Value) (key b : List UInt8) (z : Int) (xs : List It) (w : World) (hK : Bs w kv key) (hB : Bs w bv b) (hI : Its w lv xs) (hz : ∀ x ∈ xs, x.b.length ≤ 140737488355328) :
    Calls Try.prog 17 #[kv, .int .i64 z, bv, lv] w fun e w' => e = .returned (.bool true) ∧ Ext w w' := by
  obtain ⟨Ak, capk, rfl, hcapk, hcmk, _, _⟩ := hK.is
  obtain ⟨Ab, capb, rfl, hcapb, hcmb, _, _⟩ := hB.is
  obtain ⟨Al, capl, rfl, hcapl, hcml, _, _⟩ := hI.rd.is
  unfold maxLen at hcmk hcmb hcml
  obtain ⟨n, hn⟩ : ∃ n, longN xs = n := ⟨_, rfl⟩
  have HN := Lib.hid hn
  have HK := Lib.hid hK
  have HB := Lib.hid hB
  have HI := Lib.hid hI
  have HE := Lib.hid (longN_each xs)
  have HZ := Lib.hid hz
  clear hK hB hI hn hz
  by_cases h1 : 100 < key.length
  · skip
    go_enter Try.func17, Try.ntmps17
    go_wp2_with (first | (go_at_call 36; go_must (refine (long_any _ xs _ HI.out (its_small HZ.out (by omega))).mono ?_; rintro e w1 ⟨rfl, rfl⟩; rw [HN.out])) | (go_at_call 54; go_must (refine (known5_any _).mono ?_; rintro e w2 ⟨rfl, hx2⟩; have HX2 := Lib.hid hx2; clear hx2)))
    go_ret
    exact ⟨rfl, HX2.out⟩
  by_cases h2 : 300 < b.length
  · skip
    go_enter Try.func17, Try.ntmps17
    go_wp2_with (first | (go_at_call 36; go_must (refine (long_any _ xs _ HI.out (its_small HZ.out (by omega))).mono ?_; rintro e w1 ⟨rfl, rfl⟩; rw [HN.out])) | (go_at_call 54; go_must (refine (known5_any _).mono ?_; rintro e w2 ⟨rfl, hx2⟩; have HX2 := Lib.hid hx2; clear hx2)))
    go_ret
    exact ⟨rfl, HX2.out⟩
  by_cases h3 : 20 < xs.length
  · skip
    go_enter Try.func17, Try.ntmps17
    go_wp2_with (first | (go_at_call 36; go_must (refine (long_any _ xs _ HI.out (its_small HZ.out (by omega))).mono ?_; rintro e w1 ⟨rfl, rfl⟩; rw [HN.out])) | (go_at_call 54; go_must (refine (known5_any _).mono ?_; rintro e w2 ⟨rfl, hx2⟩; have HX2 := Lib.hid hx2; clear hx2)))
    go_ret
    exact ⟨rfl, HX2.out⟩
  by_cases h4 : 600 < n
  · skip
    go_enter Try.func17, Try.ntmps17
    go_wp2_with (first | (go_at_call 36; go_must (refine (long_any _ xs _ HI.out (its_small HZ.out (by omega))).mono ?_; rintro e w1 ⟨rfl, rfl⟩; rw [HN.out])) | (go_at_call 54; go_must (refine (known5_any _).mono ?_; rintro e w2 ⟨rfl, hx2⟩; have HX2 := Lib.hid hx2; clear hx2)))
    go_ret
    exact ⟨rfl, HX2.out⟩
  have hb : ∀ x ∈ xs, x.b.length ≤ 1073741000 := fun x hx => by have := HE.out x hx; rw [HN.out] at this; omega
  have HBB := Lib.hid hb
  obtain ⟨D, hD⟩ : ∃ D, ofD key z b = D := ⟨_, rfl⟩
  obtain ⟨S, hS⟩ : ∃ S, allD key xs = S := ⟨_, rfl⟩
  have HDl : Hid (D.length = 32) := Lib.hid (by rw [← hD]; exact ofD_length _ _ _)
  have HSl : Hid (S.length = 32) := Lib.hid (by rw [← hS]; exact allD_length _ _)
  have HD := Lib.hid hD
  have HS := Lib.hid hS
  clear hb hD hS
  go_enter Try.func17, Try.ntmps17
  go_wp2_with (first | (go_at_call 36; go_must (refine (long_any _ xs _ HI.out (its_small HZ.out (by omega))).mono ?_; rintro e w1 ⟨rfl, rfl⟩; rw [HN.out])) | (go_at_call 55; go_must (refine (of_any _ _ key b z _ HK.out HB.out (by omega) (by omega)).mono ?_; rintro e w1 ⟨rfl, hx1⟩; rw [HD.out]; have HX1 := Lib.hid hx1; clear hx1)) | (go_at_call 56; go_must (refine (rof_any _ _ key b z _ (Rd.ext HK.out HX1.out) (Rd.ext HB.out HX1.out) (by omega) (by omega)).mono ?_; rintro e w2 ⟨rfl, hx2⟩; rw [HD.out]; have HX2 := Lib.hid (HX1.out.trans hx2); clear hx2)) | (refine wpl_v rfl _ (exec_eq27 (.tmp 31) (.tmp 35) _ rfl D D rfl rfl HDl.out HDl.out _) ?_; simp only [decide_true]) | (go_at_call 57; go_must (refine (all_any _ _ key xs _ (Rd.ext HK.out HX2.out) (HI.out.ext HX2.out) (by omega) HBB.out).mono ?_; rintro e w3 ⟨rfl, hx3⟩; rw [HS.out]; have HX3 := Lib.hid (HX2.out.trans hx3); clear hx3)) | (go_at_call 58; go_must (refine (rall_any _ _ key xs _ (Rd.ext HK.out HX3.out) (HI.out.ext HX3.out) (by omega) HBB.out).mono ?_; rintro e w4 ⟨rfl, hx4⟩; rw [HS.out]; have HX4 := Lib.hid (HX3.out.trans hx4); clear hx4)) | (refine wpl_v rfl _ (exec_eq27 (.tmp 40) (.tmp 43) _ rfl S S rfl rfl HSl.out HSl.out _) ?_; simp only [decide_true]) | (go_at_call 54; go_must (refine (known5_any _).mono ?_; rintro e w5 ⟨rfl, hx5⟩; have HX5 := Lib.hid (HX4.out.trans hx5); clear hx5)))
  go_ret
  exact ⟨rfl, HX5.out⟩
end Go.Proofs.Ytapojpjmeadabaa
end

section
/- Slices of Items that are one's own. -/
namespace Go.Proofs.Ytapojpjmeadabaa
open Go.RowKit
set_option linter.unusedVariables false
set_option linter.unusedSimpArgs false
attribute [local go_sem] lt_ext cell?_ext frozen?_ext shape?_ext

structure NewI (w : World) (v : Value) (xs : List It) (w' : World) : Prop where
  own : Own w' 50 2 v xs.length (itc xs)
  ext : Ext w w'
  fr : ∀ g, v.ownBlock = some g → w.heap.size ≤ g
  each : ∀ x ∈ xs, Bs w x.u x.b
theorem NewI.nil {w w' : World} (h : Ext w w') : NewI w (.slice none 0 0) [] w' := ⟨Own.nil _ _ _, h, (fun g hg => nomatch hg), (fun x hx => by cases hx)⟩
theorem NewI.its {w w' : World} {v : Value} {xs : List It} (h : NewI w v xs w') : Its w' v xs := ⟨Own.rd h.own, fun x hx => Rd.ext (h.each x hx) h.ext⟩
theorem NewI.grow {w w1 w2 : World} {v : Value} {xs : List It} (h : NewI w v xs w1) (hx : Ext w1 w2) : NewI w v xs w2 := ⟨h.own.ext hx, h.ext.trans hx, h.fr, h.each⟩
theorem NewI.app {w w1 w2 : World} {v v' : Value} {xs ys : List It} (h : NewI w v xs w1) (hys : ∀ x ∈ ys, Bs w x.u x.b) (ho : Own w2 50 2 v' (xs.length + ys.length) (itc xs ++ itc ys)) (hg : Grew w1 w2 v) (hf : v'.ownBlock = v.ownBlock ∨ ∀ g, v'.ownBlock = some g → w1.heap.size ≤ g) : NewI w v' (xs ++ ys) w2 := by
  refine ⟨by rw [List.length_append, itc_append]; exact ho, ?_, fun g hv => ?_, fun x hx => ?_⟩
  · exact (Chg.trans (S := fun _ => False) (Chg.of_ext h.ext _) (Chg.of_grew hg) (fun i hi e => by have := h.fr i e.symm; omega)).ext fun k hk => hk.elim
  · rcases hf with e | e
    · exact h.fr g (e ▸ hv)
    · exact Nat.le_trans h.ext.size (e g hv)
  · rcases List.mem_append.1 hx with h1 | h1
    · exact h.each x h1
    · exact hys x h1
theorem NewI.grew {w w1 w2 : World} {v : Value} {xs : List It} (h : NewI w v xs w1) (hg : Grew w1 w2 v) : Ext w w2 :=
  (Chg.trans (S := fun _ => False) (Chg.of_ext h.ext _) (Chg.of_grew hg) (fun i hi e => by have := h.fr i e.symm; omega)).ext fun k hk => hk.elim
theorem Own.other {w w' : World} {v : Value} {n g : Nat} {xs : List Value} {D : List UInt8} (h : Own w 50 2 v n xs) (hg : Grew w w' v) (hb : Blk w g 27 D) : Blk w' g 27 D :=
  (hg.block g hb.lt (fun e => h.not_block hb (by decide) e.symm)).trans hb
theorem itc_one {w : World} {xs : List It} (h : ∀ x ∈ xs, Bs w x.u x.b) : ∀ u ∈ itc xs, u.oneCell' = true := by
  induction xs with
  | nil => intro u hu; cases hu
  | cons x r ih =>
    intro u hu
    rcases List.mem_cons.1 hu with rfl | hu
    · rfl
    · rcases List.mem_cons.1 hu with rfl | hu
      · obtain ⟨A, cap, e, _⟩ := (h x (by simp)).is
        rw [e]; rfl
      · exact ih (fun y hy => h y (by simp [hy])) u hu
/-- One Item, written out in a block that was just made. -/
theorem its_one (w : World) (x : It) (hb : Bs w x.u x.b) : Its (w.alloc (.cells #[.int .i64 x.z, x.u] 50)) (.slice (some ⟨w.heap.size, 0, none⟩) 1 1) [x] := by
  refine ⟨Rd.lit rfl (Nat.le_refl _) (by unfold maxLen; decide) (by simp) fun j u hj => ?_, fun y hy => ?_⟩
  · rw [Nat.zero_add, cell_of_row _ _ _ _ _ _ (heap_alloc_last w _)]
    simpa [itc] using hj
  · obtain rfl : y = x := by simpa using hy
    exact Rd.ext hb ((Ext.refl w).alloc _)
theorem its_two (w : World) (x y : It) (hb : Bs w x.u x.b) (hc : Bs w y.u y.b) : Its (w.alloc (.cells #[.int .i64 x.z, x.u, .int .i64 y.z, y.u] 50)) (.slice (some ⟨w.heap.size, 0, none⟩) 2 2) [x, y] := by
  refine ⟨Rd.lit rfl (Nat.le_refl _) (by unfold maxLen; decide) (by simp) fun j u hj => ?_, fun q hq => ?_⟩
  · rw [Nat.zero_add, cell_of_row _ _ _ _ _ _ (heap_alloc_last w _)]
    simpa [itc] using hj
  · rcases (show q = x ∨ q = y by simpa using hq) with rfl | rfl
    · exact Rd.ext hb ((Ext.refl w).alloc _)
    · exact Rd.ext hc ((Ext.refl w).alloc _)
theorem its_take {w : World} {v : Value} {xs : List It} (h : Its w v xs) (k : Nat) (hk : k ≤ xs.length) {v' : Value} (hr : Rd w 2 v' k ((itc xs).take (k * 2))) : Its w v' (xs.take k) :=
  ⟨by rw [List.length_take, Nat.min_eq_left hk, itc_take]; exact hr, fun x hx => h.each x (List.mem_of_mem_take hx)⟩
theorem its_drop {w : World} {v : Value} {xs : List It} (h : Its w v xs) (k : Nat) (hk : k ≤ xs.length) {v' : Value} (hr : Rd w 2 v' (xs.length - k) ((itc xs).drop (k * 2))) : Its w v' (xs.drop k) :=
  ⟨by rw [List.length_drop, itc_drop]; exact hr, fun x hx => h.each x (List.mem_of_mem_drop hx)⟩
theorem allD_app (key : List UInt8) (xs : List It) (x : It) : allD key (xs ++ [x]) = addD (allD key xs) (ofD key x.z x.b) := by simp [allD]
theorem zero_addD (a : List UInt8) (ha : a.length = 32) : addD (Sha.zeros 32) a = a := by rw [addD_comm]; exact addD_zero a ha
theorem allD_append (key : List UInt8) (xs ys : List It) : allD key (xs ++ ys) = addD (allD key xs) (allD key ys) := by
  have h : ∀ (ys : List It) (d : List UInt8), d.length = 32 → ys.foldl (fun d x => addD d (ofD key x.z x.b)) d = addD d (allD key ys) := by
    intro ys
    induction ys with
    | nil => intro d hd; exact (addD_zero d hd).symm
    | cons x r ih =>
      intro d hd
      simp only [List.foldl_cons]
      rw [ih _ (addD_length _ _)]
      have e : allD key (x :: r) = addD (ofD key x.z x.b) (allD key r) := by
        unfold allD
        simp only [List.foldl_cons]
        rw [ih _ (addD_length _ _), zero_addD _ (ofD_length _ _ _)]
        rfl
      rw [e, addD_assoc]
  conv => lhs; unfold allD
  rw [List.foldl_append]
  exact h ys _ (allD_length key xs)
theorem allD_reverse (key : List UInt8) (xs : List It) : allD key xs.reverse = allD key xs := by
  induction xs with
  | nil => rfl
  | cons x r ih =>
    rw [List.reverse_cons, allD_append, ih, show x :: r = [x] ++ r from rfl, allD_append, addD_comm]
theorem sub_left (a b : List UInt8) (ha : a.length = 32) (hb : b.length = 32) : subD (addD a b) a = b := by rw [addD_comm]; exact subD_addD b a hb ha
end Go.Proofs.Ytapojpjmeadabaa
end

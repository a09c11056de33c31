/- Skeys: several texts in one. -/
import Derived.Test.YtapojpjmeadabaaZKnown5
section
/- sacristanlaw05.SumKeys. -/
namespace Go.Proofs.Ytapojpjmeadabaa
open Go.RowKit
set_option linter.unusedVariables false
set_option linter.unusedSimpArgs false
attribute [local go_sem] lt_ext cell?_ext frozen?_ext shape?_ext

set_option maxRecDepth 100000 in
set_option maxHeartbeats 2000000 in
theorem sumkeys_any (kv bv lv : Value) (key b : List UInt8) (z : Int) (xs : List It) (w : World) (hK : Bs w kv key) (hB : Bs w bv b) (hI : Its w lv xs) (hz : ∀ x ∈ xs, x.b.length ≤ 140737488355328) :
    Calls Try.prog 20 #[kv, .int .i64 z, bv, lv] w fun e w' => e = .returned (.bool true) ∧ Ext w w' := by
  obtain ⟨Ak, capk, rfl, hcapk, hcmk, _, _⟩ := hK.is
  obtain ⟨Ab, capb, rfl, hcapb, hcmb, _, _⟩ := hB.is
  obtain ⟨Al, capl, rfl, hcapl, hcml, _, _⟩ := hI.rd.is
  unfold maxLen at hcmk hcmb hcml
  obtain ⟨n, hn⟩ : ∃ n, longN xs = n := ⟨_, rfl⟩
  have HN := Lib.hid hn
  have HK := Lib.hid hK
  have HB := Lib.hid hB
  have HI := Lib.hid hI
  have HE := Lib.hid (longN_each xs)
  have HZ := Lib.hid hz
  clear hK hB hI hn hz
  by_cases h1 : 100 < key.length
  · skip
    go_enter Try.func20, Try.ntmps20
    go_wp2_with (first | (go_at_call 36; go_must (refine (long_any _ xs _ HI.out (its_small HZ.out (by omega))).mono ?_; rintro e w1 ⟨rfl, rfl⟩; rw [HN.out])) | (go_at_call 54; go_must (refine (known5_any _).mono ?_; rintro e w2 ⟨rfl, hx2⟩; have HX2 := Lib.hid hx2; clear hx2)))
    go_ret
    exact ⟨rfl, HX2.out⟩
  by_cases h2 : 200 < b.length
  · skip
    go_enter Try.func20, Try.ntmps20
    go_wp2_with (first | (go_at_call 36; go_must (refine (long_any _ xs _ HI.out (its_small HZ.out (by omega))).mono ?_; rintro e w1 ⟨rfl, rfl⟩; rw [HN.out])) | (go_at_call 54; go_must (refine (known5_any _).mono ?_; rintro e w2 ⟨rfl, hx2⟩; have HX2 := Lib.hid hx2; clear hx2)))
    go_ret
    exact ⟨rfl, HX2.out⟩
  by_cases h3 : 10 < xs.length
  · skip
    go_enter Try.func20, Try.ntmps20
    go_wp2_with (first | (go_at_call 36; go_must (refine (long_any _ xs _ HI.out (its_small HZ.out (by omega))).mono ?_; rintro e w1 ⟨rfl, rfl⟩; rw [HN.out])) | (go_at_call 54; go_must (refine (known5_any _).mono ?_; rintro e w2 ⟨rfl, hx2⟩; have HX2 := Lib.hid hx2; clear hx2)))
    go_ret
    exact ⟨rfl, HX2.out⟩
  by_cases h4 : 300 < n
  · skip
    go_enter Try.func20, Try.ntmps20
    go_wp2_with (first | (go_at_call 36; go_must (refine (long_any _ xs _ HI.out (its_small HZ.out (by omega))).mono ?_; rintro e w1 ⟨rfl, rfl⟩; rw [HN.out])) | (go_at_call 54; go_must (refine (known5_any _).mono ?_; rintro e w2 ⟨rfl, hx2⟩; have HX2 := Lib.hid hx2; clear hx2)))
    go_ret
    exact ⟨rfl, HX2.out⟩
  obtain ⟨x, hx⟩ : ∃ x : It, x = ⟨.slice Ab b.length capb, z, b⟩ := ⟨_, rfl⟩
  have hb0 : ∀ y ∈ xs, y.b.length ≤ 1073741000 := fun y hy => by have := HE.out y hy; rw [HN.out] at this; omega
  have hb1 : ∀ y ∈ [x], y.b.length ≤ 1073741000 := fun y hy => by obtain rfl : y = x := (by simpa using hy); rw [hx]; show b.length ≤ _; omega
  have HB0 := Lib.hid hb0
  have HB1 : Hid (∀ y ∈ xs ++ [x], y.b.length ≤ 1073741000) := Lib.hid (fun y hy => (List.mem_append.1 hy).elim (hb0 y) (hb1 y))
  have HB2 : Hid (∀ y ∈ (xs ++ [x]) ++ [x], y.b.length ≤ 1073741000) := Lib.hid (fun y hy => (List.mem_append.1 hy).elim (HB1.out y) (hb1 y))
  have HBx : Hid (∀ y ∈ [x], Bs w y.u y.b) := Lib.hid (fun y hy => by obtain rfl : y = x := (by simpa using hy); rw [hx]; exact HB.out)
  have HIx : Hid (∀ w', Ext w w' → Its (w'.alloc (.cells #[.int .i64 z, .slice Ab b.length capb] 50)) (.slice (some ⟨w'.heap.size, 0, none⟩) 1 1) [x]) := Lib.hid (fun w' hw => by have h := its_one w' x (by rw [hx]; exact Rd.ext HB.out hw); rw [hx] at h ⊢; exact h)
  obtain ⟨d, hd⟩ : ∃ d, ofD key z b = d := ⟨_, rfl⟩
  obtain ⟨S, hS⟩ : ∃ S, allD key xs = S := ⟨_, rfl⟩
  obtain ⟨S1, hS1⟩ : ∃ S1, allD key (xs ++ [x]) = S1 := ⟨_, rfl⟩
  obtain ⟨S2, hS2⟩ : ∃ S2, allD key ((xs ++ [x]) ++ [x]) = S2 := ⟨_, rfl⟩
  obtain ⟨dd, hdd⟩ : ∃ dd, addD d d = dd := ⟨_, rfl⟩
  have Hdl : Hid (d.length = 32) := Lib.hid (by rw [← hd]; exact ofD_length _ _ _)
  have HSl : Hid (S.length = 32) := Lib.hid (by rw [← hS]; exact allD_length _ _)
  have HS1l : Hid (S1.length = 32) := Lib.hid (by rw [← hS1]; exact allD_length _ _)
  have HS2l : Hid (S2.length = 32) := Lib.hid (by rw [← hS2]; exact allD_length _ _)
  have Hddl : Hid (dd.length = 32) := Lib.hid (by rw [← hdd]; exact addD_length _ _)
  have e1 : S1 = addD S d := by rw [← hS1, allD_app, hS, hx, ← hd]
  have e2 : S2 = addD S1 d := by rw [← hS2, allD_app, hS1, hx, ← hd]
  have HQ1 : Hid (subD S1 S = d) := Lib.hid (by rw [e1]; exact sub_left S d HSl.out Hdl.out)
  have HQ2 : Hid (subD S2 S1 = d) := Lib.hid (by rw [e2]; exact sub_left S1 d HS1l.out Hdl.out)
  have HQ3 : Hid (subD S2 S = dd) := Lib.hid (by rw [e2, e1, addD_assoc, hdd]; exact sub_left S dd HSl.out Hddl.out)
  have HD := Lib.hid hd
  have HDD := Lib.hid hdd
  have HS := Lib.hid hS
  have HS1 := Lib.hid hS1
  have HS2 := Lib.hid hS2
  clear hb0 hb1 hd hS hS1 hS2 hdd e1 e2 hx
  have TA : True := trivial
  go_enter Try.func20, Try.ntmps20
  go_wp2_with (first | (go_at_call 36; go_must (refine (long_any _ xs _ HI.out (its_small HZ.out (by omega))).mono ?_; rintro e w1 ⟨rfl, rfl⟩; rw [HN.out])) | (go_at_call 57; clear TA; go_must (refine (all_any _ _ key xs _ HK.out HI.out (by omega) HB0.out).mono ?_; rintro e w1 ⟨rfl, hx1⟩; rw [HS.out]; have HX1 := Lib.hid hx1; have TB : True := trivial; clear hx1)) | (refine wpl_alloc_agg rfl 27 rfl _ zero27.1 ?_) | (clear TB; refine wpl_store27 rfl _ _ rfl w1.heap.size S (Sha.zeros 32) rfl rfl HSl.out (by simp [Sha.zeros]) (heap_alloc_last w1 _) ?_; intro w2 h2 hu2; have H2 : Hid (Blk w2 w1.heap.size 27 S) := Lib.hid h2; have HX2 : Hid (Ext w w2) := Lib.hid (HX1.out.trans (((Ext.refl w1).alloc _).upd_new hu2 (Nat.le_refl _))); clear h2 hu2; have TC : True := trivial) | (at_builtin; clear TC; go_must (refine wpList_append_rd ei38 rfl _ _ rfl _ rfl (Own.nil w2 50 2) _ rfl (HI.out.ext HX2.out).rd (itc_one HI.out.each) (by omega) ?_; intro v3 w3 ho3 hg3 hf3; have HN3 : Hid (NewI w v3 xs w3) := Lib.hid ((NewI.nil HX2.out).app HI.out.each ho3 hg3 hf3); have H3 : Hid (Blk w3 w1.heap.size 27 S) := Lib.hid (Own.other (Own.nil w2 50 2) hg3 H2.out); clear ho3 hg3 hf3; have TD : True := trivial)) | (at_builtin; clear TD; go_must (refine wpList_append_rd ei38 rfl _ _ rfl _ rfl (HN3.out.grow ((Ext.refl w3).alloc _)).own _ rfl (HIx.out w3 HN3.out.ext).rd (itc_one HBx.out) (by simp; omega) ?_; intro v4 w4 ho4 hg4 hf4; have HN4 : Hid (NewI w v4 (xs ++ [x]) w4) := Lib.hid ((HN3.out.grow ((Ext.refl w3).alloc _)).app HBx.out ho4 hg4 hf4); have H4 : Hid (Blk w4 w1.heap.size 27 S) := Lib.hid (Own.other (HN3.out.grow ((Ext.refl w3).alloc _)).own hg4 (Blk.ext H3.out ((Ext.refl w3).alloc _))); clear ho4 hg4 hf4; have TE : True := trivial)) | (go_at_call 57; clear TE; go_must (refine (all_any _ _ key (xs ++ [x]) _ (Rd.ext HK.out HN4.out.ext) HN4.out.its (by omega) HB1.out).mono ?_; rintro e w5 ⟨rfl, hx5⟩; rw [HS1.out]; have HN5 := Lib.hid (HN4.out.grow hx5); have H5 := Lib.hid (Blk.ext H4.out hx5); have TF : True := trivial; clear hx5)) | (clear TF; refine wpl_store27 rfl _ _ rfl w5.heap.size S1 (Sha.zeros 32) rfl rfl HS1l.out (by simp [Sha.zeros]) (heap_alloc_last w5 _) ?_; intro w6 h6 hu6; have H6 : Hid (Blk w6 w5.heap.size 27 S1) := Lib.hid h6; have hx6 : Ext w5 w6 := ((Ext.refl w5).alloc _).upd_new hu6 (Nat.le_refl _); have HN6 := Lib.hid (HN5.out.grow hx6); have G6 := Lib.hid (Blk.ext H5.out hx6); clear h6 hu6 hx6; have TG : True := trivial) | (at_builtin; clear TG; go_must (refine wpList_append_rd ei38 rfl _ _ rfl _ rfl (HN6.out.grow ((Ext.refl w6).alloc _)).own _ rfl (HIx.out w6 HN6.out.ext).rd (itc_one HBx.out) (by simp; omega) ?_; intro v7 w7 ho7 hg7 hf7; have HN7 : Hid (NewI w v7 ((xs ++ [x]) ++ [x]) w7) := Lib.hid ((HN6.out.grow ((Ext.refl w6).alloc _)).app HBx.out ho7 hg7 hf7); have H7 : Hid (Blk w7 w5.heap.size 27 S1) := Lib.hid (Own.other (HN6.out.grow ((Ext.refl w6).alloc _)).own hg7 (Blk.ext H6.out ((Ext.refl w6).alloc _))); have G7 : Hid (Blk w7 w1.heap.size 27 S) := Lib.hid (Own.other (HN6.out.grow ((Ext.refl w6).alloc _)).own hg7 (Blk.ext G6.out ((Ext.refl w6).alloc _))); clear ho7 hg7 hf7; have TH : True := trivial)) | (go_at_call 57; clear TH; go_must (refine (all_any _ _ key ((xs ++ [x]) ++ [x]) _ (Rd.ext HK.out HN7.out.ext) HN7.out.its (by omega) HB2.out).mono ?_; rintro e w8 ⟨rfl, hx8⟩; rw [HS2.out]; have HX8 := Lib.hid (HN7.out.ext.trans hx8); have H8 := Lib.hid (Blk.ext H7.out hx8); have G8 := Lib.hid (Blk.ext G7.out hx8); have TI : True := trivial; clear hx8)) | (clear TI; refine wpl_store27 rfl _ _ rfl w8.heap.size S2 (Sha.zeros 32) rfl rfl HS2l.out (by simp [Sha.zeros]) (heap_alloc_last w8 _) ?_; intro w9 h9 hu9; have K9 : Hid (Blk w9 w8.heap.size 27 S2) := Lib.hid h9; have hx9 : Ext w8 w9 := ((Ext.refl w8).alloc _).upd_new hu9 (Nat.le_refl _); have HX9 := Lib.hid (HX8.out.trans hx9); have H9 := Lib.hid (Blk.ext H8.out hx9); have G9 := Lib.hid (Blk.ext G8.out hx9); clear h9 hu9 hx9; have TJ : True := trivial) | (go_at_call 55; clear TJ; go_must (refine (of_any _ _ key b z _ (Rd.ext HK.out HX9.out) (Rd.ext HB.out HX9.out) (by omega) (by omega)).mono ?_; rintro e w10 ⟨rfl, hx10⟩; rw [HD.out]; have HX10 := Lib.hid (HX9.out.trans hx10); have H10 := Lib.hid (Blk.ext H9.out hx10); have G10 := Lib.hid (Blk.ext G9.out hx10); have K10 := Lib.hid (Blk.ext K9.out hx10); have TK : True := trivial; clear hx10)) | (clear TK; refine wpl_store27 rfl _ _ rfl w10.heap.size d (Sha.zeros 32) rfl rfl Hdl.out (by simp [Sha.zeros]) (heap_alloc_last w10 _) ?_; intro w11 h11 hu11; have L11 : Hid (Blk w11 w10.heap.size 27 d) := Lib.hid h11; have hx11 : Ext w10 w11 := ((Ext.refl w10).alloc _).upd_new hu11 (Nat.le_refl _); have HX11 := Lib.hid (HX10.out.trans hx11); have H11 := Lib.hid (Blk.ext H10.out hx11); have G11 := Lib.hid (Blk.ext G10.out hx11); have K11 := Lib.hid (Blk.ext K10.out hx11); clear h11 hu11 hx11))
  refine wp_region_m (by kernel_rfl) (by kernel_rfl) ?_; try simp only [Act.put, List.setIfInBounds_toArray, List.set_cons_succ, List.set_cons_zero]
  refine gx rfl rfl rfl rfl (Dig S1) (fun y => exec_load27 (.tmp 11) rfl w5.heap.size rfl S1 HS1l.out _ (Blk.ext H11.out (ext_ext w11 y))) ?_
  simp only [Act.put, List.setIfInBounds_toArray, List.set_cons_succ, List.set_cons_zero]
  refine gx rfl rfl rfl rfl (Dig S) (fun y => exec_load27 (.tmp 9) rfl w1.heap.size rfl S HSl.out _ (Blk.ext G11.out (ext_ext w11 y))) ?_
  simp only [Act.put, List.setIfInBounds_toArray, List.set_cons_succ, List.set_cons_zero]
  refine gc rfl rfl rfl rfl 60 #[Dig S1, Dig S] (fun _ => by go_simp) (Dig d) (fun y => by have h := sub_any S1 S HS1l.out HSl.out (w11.ext y); rw [HQ1.out] at h; exact h) ?_
  simp only [Act.put, List.setIfInBounds_toArray, List.set_cons_succ, List.set_cons_zero]
  refine gx rfl rfl rfl rfl (Dig d) (fun y => exec_load27 (.tmp 13) rfl w10.heap.size rfl d Hdl.out _ (Blk.ext L11.out (ext_ext w11 y))) ?_
  simp only [Act.put, List.setIfInBounds_toArray, List.set_cons_succ, List.set_cons_zero]
  refine ge rfl rfl rfl rfl _ (exec_eq27 _ _ _ rfl d d rfl rfl Hdl.out Hdl.out) ?_
  simp only [decide_true]
  simp only [Act.put, List.setIfInBounds_toArray, List.set_cons_succ, List.set_cons_zero]
  refine gq rfl rfl rfl rfl (fun K hK => ?_); go_big_quiet_op; refine hK _ ?_; clear hK K
  refine gx rfl rfl rfl rfl (Dig S2) (fun y => exec_load27 (.tmp 12) rfl w8.heap.size rfl S2 HS2l.out _ (Blk.ext K11.out (ext_ext w11 y))) ?_
  simp only [Act.put, List.setIfInBounds_toArray, List.set_cons_succ, List.set_cons_zero]
  refine gx rfl rfl rfl rfl (Dig S1) (fun y => exec_load27 (.tmp 11) rfl w5.heap.size rfl S1 HS1l.out _ (Blk.ext H11.out (ext_ext w11 y))) ?_
  simp only [Act.put, List.setIfInBounds_toArray, List.set_cons_succ, List.set_cons_zero]
  refine gc rfl rfl rfl rfl 60 #[Dig S2, Dig S1] (fun _ => by go_simp) (Dig d) (fun y => by have h := sub_any S2 S1 HS2l.out HS1l.out (w11.ext y); rw [HQ2.out] at h; exact h) ?_
  simp only [Act.put, List.setIfInBounds_toArray, List.set_cons_succ, List.set_cons_zero]
  refine gx rfl rfl rfl rfl (Dig d) (fun y => exec_load27 (.tmp 13) rfl w10.heap.size rfl d Hdl.out _ (Blk.ext L11.out (ext_ext w11 y))) ?_
  simp only [Act.put, List.setIfInBounds_toArray, List.set_cons_succ, List.set_cons_zero]
  refine ge rfl rfl rfl rfl _ (exec_eq27 _ _ _ rfl d d rfl rfl Hdl.out Hdl.out) ?_
  simp only [decide_true]
  simp only [Act.put, List.setIfInBounds_toArray, List.set_cons_succ, List.set_cons_zero]
  refine gq rfl rfl rfl rfl (fun K hK => ?_); go_big_quiet_op; refine hK _ ?_; clear hK K
  refine gq rfl rfl rfl rfl (fun K hK => ?_); go_big_quiet_op; refine hK _ ?_; clear hK K
  refine gx rfl rfl rfl rfl (Dig S2) (fun y => exec_load27 (.tmp 12) rfl w8.heap.size rfl S2 HS2l.out _ (Blk.ext K11.out (ext_ext w11 y))) ?_
  simp only [Act.put, List.setIfInBounds_toArray, List.set_cons_succ, List.set_cons_zero]
  refine gx rfl rfl rfl rfl (Dig S) (fun y => exec_load27 (.tmp 9) rfl w1.heap.size rfl S HSl.out _ (Blk.ext G11.out (ext_ext w11 y))) ?_
  simp only [Act.put, List.setIfInBounds_toArray, List.set_cons_succ, List.set_cons_zero]
  refine gc rfl rfl rfl rfl 60 #[Dig S2, Dig S] (fun _ => by go_simp) (Dig dd) (fun y => by have h := sub_any S2 S HS2l.out HSl.out (w11.ext y); rw [HQ3.out] at h; exact h) ?_
  simp only [Act.put, List.setIfInBounds_toArray, List.set_cons_succ, List.set_cons_zero]
  refine gx rfl rfl rfl rfl (Dig d) (fun y => exec_load27 (.tmp 13) rfl w10.heap.size rfl d Hdl.out _ (Blk.ext L11.out (ext_ext w11 y))) ?_
  simp only [Act.put, List.setIfInBounds_toArray, List.set_cons_succ, List.set_cons_zero]
  refine gx rfl rfl rfl rfl (Dig d) (fun y => exec_load27 (.tmp 13) rfl w10.heap.size rfl d Hdl.out _ (Blk.ext L11.out (ext_ext w11 y))) ?_
  simp only [Act.put, List.setIfInBounds_toArray, List.set_cons_succ, List.set_cons_zero]
  refine gc rfl rfl rfl rfl 59 #[Dig d, Dig d] (fun _ => by go_simp) (Dig dd) (fun y => by have h := add_any d d Hdl.out Hdl.out (w11.ext y); rw [HDD.out] at h; exact h) ?_
  simp only [Act.put, List.setIfInBounds_toArray, List.set_cons_succ, List.set_cons_zero]
  refine ge rfl rfl rfl rfl _ (exec_eq27 _ _ _ rfl dd dd rfl rfl Hddl.out Hddl.out) ?_
  simp only [decide_true]
  simp only [Act.put, List.setIfInBounds_toArray, List.set_cons_succ, List.set_cons_zero]
  refine gq rfl rfl rfl rfl (fun K hK => ?_); go_big_quiet_op; refine hK _ ?_; clear hK K
  refine gq rfl rfl rfl rfl (fun K hK => ?_); go_big_quiet_op; refine hK _ ?_; clear hK K
  refine gc rfl rfl rfl rfl 54 #[] (fun _ => by go_simp) (.bool true) (fun y => known5_any _) ?_
  simp only [Act.put, List.setIfInBounds_toArray, List.set_cons_succ, List.set_cons_zero]
  refine gq rfl rfl rfl rfl (fun K hK => ?_); go_big_quiet_op; refine hK _ ?_; clear hK K
  refine gq rfl rfl rfl rfl (fun K hK => ?_); go_big_quiet_op; refine hK _ ?_; clear hK K
  refine gm_end_at rfl [] rfl (fun xs' y hk => ?_)
  clear hk
  simp only [fillM, Act.put, List.setIfInBounds_toArray, List.set_cons_succ, List.set_cons_zero]
  go_wp2
  go_ret
  exact ⟨rfl, HX11.out.trans (ext_ext w11 y)⟩
end Go.Proofs.Ytapojpjmeadabaa
end

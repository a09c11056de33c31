/- Sitems: several texts in one. -/
import Derived.Test.YtapojpjmeadabaaZKnown5
section
/- sacristanlaw05.SumItems. -/
namespace Go.Proofs.Ytapojpjmeadabaa
open Go.RowKit
set_option linter.unusedVariables false
set_option linter.unusedSimpArgs false
attribute [local go_sem] lt_ext cell?_ext frozen?_ext shape?_ext

/-- What is known of a slice of Items. -/
def ItsR (xs : List It) (u : Value) (w : World) : Prop := Its w u xs
theorem ItsR.ext {xs : List It} (u : Value) (w w' : World) (hx : Ext w w') (h : ItsR xs u w) : ItsR xs u w' := Its.ext h hx
theorem its_nil (w : World) : Its w (.slice none 0 0) [] := ⟨Rd.nil w 2, fun x hx => by cases hx⟩
set_option maxRecDepth 100000 in
set_option maxHeartbeats 2000000 in
theorem sumitems_any (kv lv : Value) (key : List UInt8) (xs : List It) (x : It) (w : World) (hK : Bs w kv key) (hI : Its w lv xs) (hX : Bs w x.u x.b) (hz : ∀ x ∈ xs, x.b.length ≤ 140737488355328) :
    Calls Try.prog 19 #[kv, lv, .agg #[.int .i64 x.z, x.u]] w fun e w' => e = .returned (.bool true) ∧ Ext w w' := by
  obtain ⟨Ak, capk, rfl, hcapk, hcmk, _, _⟩ := hK.is
  obtain ⟨Al, capl, rfl, hcapl, hcml, _, _⟩ := hI.rd.is
  obtain ⟨Ax, capx, ex, hcapx, hcmx, _, _⟩ := hX.is
  unfold maxLen at hcmk hcml hcmx
  obtain ⟨n, hn⟩ : ∃ n, longN xs = n := ⟨_, rfl⟩
  have HN := Lib.hid hn
  have HK := Lib.hid hK
  have HI := Lib.hid hI
  have HXB := Lib.hid hX
  have HEX := Lib.hid ex
  have HE := Lib.hid (longN_each xs)
  have HZ := Lib.hid hz
  rw [ex]
  obtain ⟨b, hb⟩ : ∃ b, x.b = b := ⟨_, rfl⟩
  obtain ⟨z, hz1⟩ : ∃ z, x.z = z := ⟨_, rfl⟩
  rw [hb] at HEX HXB ⊢
  rw [hz1]
  have HBE := Lib.hid hb
  have HZE := Lib.hid hz1
  rw [hb] at hcapx
  clear hK hI hn hz hX ex hb hz1
  have HX0 : Hid (Ext w (w.alloc (.cells #[.int .i64 z, .slice Ax b.length capx] 50))) := Lib.hid ((Ext.refl w).alloc _)
  by_cases h1 : 100 < key.length
  · skip
    go_enter Try.func19, Try.ntmps19
    go_wp2_with (first | (go_at_call 36; go_must (refine (long_any _ xs _ (HI.out.ext HX0.out) (its_small HZ.out (by omega))).mono ?_; rintro e w1 ⟨rfl, rfl⟩; rw [HN.out])) | (go_at_call 54; go_must (refine (known5_any _).mono ?_; rintro e w2 ⟨rfl, hx2⟩; have HX2 := Lib.hid (HX0.out.trans hx2); clear hx2)))
    go_ret
    exact ⟨rfl, HX2.out⟩
  by_cases h3 : 20 < xs.length
  · skip
    go_enter Try.func19, Try.ntmps19
    go_wp2_with (first | (go_at_call 36; go_must (refine (long_any _ xs _ (HI.out.ext HX0.out) (its_small HZ.out (by omega))).mono ?_; rintro e w1 ⟨rfl, rfl⟩; rw [HN.out])) | (go_at_call 54; go_must (refine (known5_any _).mono ?_; rintro e w2 ⟨rfl, hx2⟩; have HX2 := Lib.hid (HX0.out.trans hx2); clear hx2)))
    go_ret
    exact ⟨rfl, HX2.out⟩
  by_cases h4 : 500 < n
  · skip
    go_enter Try.func19, Try.ntmps19
    go_wp2_with (first | (go_at_call 36; go_must (refine (long_any _ xs _ (HI.out.ext HX0.out) (its_small HZ.out (by omega))).mono ?_; rintro e w1 ⟨rfl, rfl⟩; rw [HN.out])) | (go_at_call 54; go_must (refine (known5_any _).mono ?_; rintro e w2 ⟨rfl, hx2⟩; have HX2 := Lib.hid (HX0.out.trans hx2); clear hx2)))
    go_ret
    exact ⟨rfl, HX2.out⟩
  by_cases h5 : 200 < b.length
  · skip
    go_enter Try.func19, Try.ntmps19
    go_wp2_with (first | (go_at_call 36; go_must (refine (long_any _ xs _ (HI.out.ext HX0.out) (its_small HZ.out (by omega))).mono ?_; rintro e w1 ⟨rfl, rfl⟩; rw [HN.out])) | (go_at_call 54; go_must (refine (known5_any _).mono ?_; rintro e w2 ⟨rfl, hx2⟩; have HX2 := Lib.hid (HX0.out.trans hx2); clear hx2)))
    go_ret
    exact ⟨rfl, HX2.out⟩
  have HXB2 : Hid (Bs w (.slice Ax b.length capx) b) := Lib.hid (by rw [← HEX.out]; exact HXB.out)
  have hXe : x.u = .slice Ax b.length capx := HEX.out
  obtain ⟨d, hd⟩ : ∃ d, ofD key z b = d := ⟨_, rfl⟩
  obtain ⟨S, hS⟩ : ∃ S, allD key xs = S := ⟨_, rfl⟩
  obtain ⟨S1, hS1⟩ : ∃ S1, allD key (xs ++ [x]) = S1 := ⟨_, rfl⟩
  obtain ⟨dd, hdd⟩ : ∃ dd, addD d d = dd := ⟨_, rfl⟩
  obtain ⟨Z, hZ0⟩ : ∃ Z, Sha.zeros 32 = Z := ⟨_, rfl⟩
  have HZ0 : Hid (Z = Sha.zeros 32) := Lib.hid hZ0.symm
  have HZl : Hid (Z.length = 32) := Lib.hid (by rw [← hZ0]; simp [Sha.zeros])
  have Hdl : Hid (d.length = 32) := Lib.hid (by rw [← hd]; exact ofD_length _ _ _)
  have HSl : Hid (S.length = 32) := Lib.hid (by rw [← hS]; exact allD_length _ _)
  have HS1l : Hid (S1.length = 32) := Lib.hid (by rw [← hS1]; exact allD_length _ _)
  have Hddl : Hid (dd.length = 32) := Lib.hid (by rw [← hdd]; exact addD_length _ _)
  have hofx : ofD key x.z x.b = d := by rw [HZE.out, HBE.out, hd]
  have HAD : Hid (addD S d = S1) := Lib.hid (by rw [← hS1, allD_app, hS, hofx])
  have HA0 : Hid (allD key [] = Z) := Lib.hid (by rw [← hZ0]; rfl)
  have HA1 : Hid (allD key [x] = d) := Lib.hid (by have h := allD_app key [] x; rw [List.nil_append] at h; rw [h, hofx]; exact zero_addD d Hdl.out)
  have HA2 : Hid (allD key [x, x] = dd) := Lib.hid (by have h := allD_app key [x] x; rw [show [x] ++ [x] = [x, x] from rfl, HA1.out, hofx, hdd] at h; exact h)
  have HDD := Lib.hid hdd
  have HD := Lib.hid hd
  have HS := Lib.hid hS
  have HS1 := Lib.hid hS1
  have hb0 : ∀ y ∈ xs, y.b.length ≤ 1073741000 := fun y hy => by have := HE.out y hy; rw [HN.out] at this; omega
  have hbx : x.b.length ≤ 1073741000 := by rw [HBE.out]; omega
  have HB0 := Lib.hid hb0
  have HB1 : Hid (∀ y ∈ xs ++ [x], y.b.length ≤ 1073741000) := Lib.hid (fun y hy => (List.mem_append.1 hy).elim (hb0 y) (fun h => by obtain rfl : y = x := (by simpa using h); exact hbx))
  have HBX1 : Hid (∀ y ∈ [x], y.b.length ≤ 1073741000) := Lib.hid (fun y hy => by obtain rfl : y = x := (by simpa using hy); exact hbx)
  have HBX2 : Hid (∀ y ∈ [x, x], y.b.length ≤ 1073741000) := Lib.hid (fun y hy => by obtain rfl : y = x := (by simpa using hy); exact hbx)
  have HBx : Hid (∀ y ∈ [x], Bs w y.u y.b) := Lib.hid (fun y hy => by obtain rfl : y = x := (by simpa using hy); rw [HBE.out]; exact HXB.out)
  have HIx : Hid (∀ w', Ext w w' → Its (w'.alloc (.cells #[.int .i64 z, .slice Ax b.length capx] 50)) (.slice (some ⟨w'.heap.size, 0, none⟩) 1 1) [x]) := Lib.hid (fun w' hw => by have h := its_one w' x (Rd.ext (HBx.out x (by simp)) hw); rw [hXe, HZE.out] at h; exact h)
  have HIxx : Hid (∀ w', Ext w w' → Its (w'.alloc (.cells #[.int .i64 z, .slice Ax b.length capx, .int .i64 z, .slice Ax b.length capx] 50)) (.slice (some ⟨w'.heap.size, 0, none⟩) 2 2) [x, x]) := Lib.hid (fun w' hw => by have h := its_two w' x x (Rd.ext (HBx.out x (by simp)) hw) (Rd.ext (HBx.out x (by simp)) hw); rw [hXe, HZE.out] at h; exact h)
  clear hXe hd hS hS1 hdd hZ0 hofx hb0 hbx
  have TA : True := trivial
  go_enter Try.func19, Try.ntmps19
  go_wp2_with (first | (go_at_call 36; go_must (refine (long_any _ xs _ (HI.out.ext HX0.out) (its_small HZ.out (by omega))).mono ?_; rintro e w1 ⟨rfl, rfl⟩; rw [HN.out])) | (go_at_call 55; clear TA; go_must (refine (of_any _ _ key b z _ (Rd.ext HK.out HX0.out) (Rd.ext HXB2.out HX0.out) (by omega) (by omega)).mono ?_; rintro e w1 ⟨rfl, hx1⟩; rw [HD.out]; have HX1 := Lib.hid (HX0.out.trans hx1); have B1 : Hid (w1.heap[w.heap.size]? = some (.cells #[.int .i64 z, .slice Ax b.length capx] 50 (0, 0))) := Lib.hid ((hx1.block (by simp)).trans (heap_alloc_last w _)); have TB : True := trivial; clear hx1)) | (refine wpl_alloc_agg rfl 27 rfl _ zero27.1 ?_) | (clear TB; refine wpl_store27 rfl _ _ rfl w1.heap.size d (Sha.zeros 32) rfl rfl Hdl.out (by simp [Sha.zeros]) (heap_alloc_last w1 _) ?_; intro w2 h2 hu2; have H2 : Hid (Blk w2 w1.heap.size 27 d) := Lib.hid h2; have hx2 : Ext w1 w2 := ((Ext.refl w1).alloc _).upd_new hu2 (Nat.le_refl _); have HX2 := Lib.hid (HX1.out.trans hx2); have B2 : Hid (w2.heap[w.heap.size]? = some (.cells #[.int .i64 z, .slice Ax b.length capx] 50 (0, 0))) := Lib.hid ((hx2.block (Array.getElem?_eq_some_iff.1 B1.out).1).trans B1.out); clear h2 hu2 hx2; have TC : True := trivial) | (at_builtin; clear TC; go_must (refine wpList_append_rd ei38 rfl _ _ rfl _ rfl (Own.nil w2 50 2) _ rfl (HI.out.ext HX2.out).rd (itc_one HI.out.each) (by omega) ?_; intro v3 w3 ho3 hg3 hf3; have hx3 : Ext w2 w3 := Chg.ext (Chg.of_grew hg3) (fun k hk => nomatch hk); have HN3 : Hid (NewI w2 v3 xs w3) := Lib.hid ((NewI.nil (Ext.refl w2)).app (fun y hy => Rd.ext (HI.out.each y hy) HX2.out) ho3 hg3 hf3); have hb3 : w3.heap[w.heap.size]? = some (.cells #[.int .i64 z, .slice Ax b.length capx] 50 (0, 0)) := (hx3.block (Array.getElem?_eq_some_iff.1 B2.out).1).trans B2.out; have hc30 : w3.cell? ⟨w.heap.size, 0, none⟩ = some (.int .i64 z) := (by rw [cell_of_row _ _ _ _ _ _ hb3]; rfl); have hc31 : w3.cell? ⟨w.heap.size, 1, none⟩ = some (.slice Ax b.length capx) := (by rw [cell_of_row _ _ _ _ _ _ hb3]; rfl); clear ho3 hg3 hf3 hx3 hb3; have TD : True := trivial)) | (at_builtin; clear TD; go_must (refine wpList_append_rd ei38 rfl _ _ rfl _ rfl (HN3.out.grow ((Ext.refl w3).alloc _)).own _ rfl (HIx.out w3 (HX2.out.trans HN3.out.ext)).rd (itc_one HBx.out) (by simp; omega) ?_; intro v4 w4 ho4 hg4 hf4; have HN4 : Hid (NewI w2 v4 (xs ++ [x]) w4) := Lib.hid ((HN3.out.grow ((Ext.refl w3).alloc _)).app (fun y hy => Rd.ext (HBx.out y hy) HX2.out) ho4 hg4 hf4); clear ho4 hg4 hf4 hc30 hc31)))
  have H4 := Lib.hid (Blk.ext H2.out HN4.out.ext)
  have HX4 := Lib.hid (HX2.out.trans HN4.out.ext)
  have hb4 : w4.heap[w.heap.size]? = some (.cells #[.int .i64 z, .slice Ax b.length capx] 50 (0, 0)) := (HN4.out.ext.block (Array.getElem?_eq_some_iff.1 B2.out).1).trans B2.out
  have hc40 : w4.cell? ⟨w.heap.size, 0, none⟩ = some (.int .i64 z) := by rw [cell_of_row _ _ _ _ _ _ hb4]; rfl
  have hc41 : w4.cell? ⟨w.heap.size, 1, none⟩ = some (.slice Ax b.length capx) := by rw [cell_of_row _ _ _ _ _ _ hb4]; rfl
  have hl4 : w.heap.size < w4.heap.size := (Array.getElem?_eq_some_iff.1 hb4).1
  clear hb4
  refine wp_region_m (by kernel_rfl) (by kernel_rfl) ?_; try simp only [Act.put, List.setIfInBounds_toArray, List.set_cons_succ, List.set_cons_zero]
  refine gq rfl rfl rfl rfl (fun K hK => ?_); go_big_quiet_op; refine hK _ ?_; clear hK K
  refine gc rfl rfl rfl rfl 57 #[.slice Ak key.length capk, .slice none 0 0] (fun _ => by go_simp) (Dig Z) (fun y => by have h := all_any _ _ key [] (w4.ext y) (Rd.ext HK.out (HX4.out.trans (ext_ext w4 y))) (its_nil _) (by omega) (fun y hy => by cases hy); rw [HA0.out] at h; exact h) ?_
  simp only [Act.put, List.setIfInBounds_toArray, List.set_cons_succ, List.set_cons_zero]
  refine ge rfl rfl rfl rfl (Dig Z) (fun w => by rw [HZ0.out]; exact exec_build27 rfl w) ?_
  simp only [Act.put, List.setIfInBounds_toArray, List.set_cons_succ, List.set_cons_zero]
  refine ge rfl rfl rfl rfl _ (exec_eq27 _ _ _ rfl Z Z rfl rfl HZl.out HZl.out) ?_
  simp only [decide_true]
  simp only [Act.put, List.setIfInBounds_toArray, List.set_cons_succ, List.set_cons_zero]
  refine gq rfl rfl rfl rfl (fun K hK => ?_); go_big_quiet_op; refine hK _ ?_; clear hK K
  refine gq rfl rfl rfl rfl (fun K hK => ?_); go_big_quiet_op; refine hK _ ?_; clear hK K
  refine gq rfl rfl rfl rfl (fun K hK => ?_); go_big_quiet_op; refine hK _ ?_; clear hK K
  refine gv rfl rfl rfl rfl 49 rfl (ItsR [x]) ItsR.ext (fun y => ⟨_, _, by go_simp <;> first | exact ⟨rfl, rfl⟩ | rfl, HIx.out (w4.ext y) (HX4.out.trans (ext_ext w4 y)), (Ext.refl _).alloc _⟩) ?_
  simp only [Act.put, List.setIfInBounds_toArray, List.set_cons_succ, List.set_cons_zero]
  refine gcx rfl rfl 57 (fun xs' => #[.slice Ak key.length capk, xs' 49]) (Dig d) (fun xs' => rfl) (fun xs' w => by simp only [fillM, Act.put, List.setIfInBounds_toArray, List.set_cons_succ, List.set_cons_zero]; go_simp) (fun xs' y hk => by have hu : Its (w4.ext y) (xs' 49) [x] := hk 49 (by decide) (by simp) _ rfl; have h := all_any _ _ key [x] (w4.ext y) (Rd.ext HK.out (HX4.out.trans (ext_ext w4 y))) hu (by omega) HBX1.out; rw [HA1.out] at h; exact h) ?_
  simp only [Act.put, List.setIfInBounds_toArray, List.set_cons_succ, List.set_cons_zero]
  refine gx rfl rfl rfl rfl (Dig d) (fun y => exec_load27 (.tmp 7) rfl w1.heap.size rfl d Hdl.out _ (Blk.ext H4.out (ext_ext w4 y))) ?_
  simp only [Act.put, List.setIfInBounds_toArray, List.set_cons_succ, List.set_cons_zero]
  refine ge rfl rfl rfl rfl _ (exec_eq27 _ _ _ rfl d d rfl rfl Hdl.out Hdl.out) ?_
  simp only [decide_true]
  simp only [Act.put, List.setIfInBounds_toArray, List.set_cons_succ, List.set_cons_zero]
  refine gq rfl rfl rfl rfl (fun K hK => ?_); go_big_quiet_op; refine hK _ ?_; clear hK K
  refine gq rfl rfl rfl rfl (fun K hK => ?_); go_big_quiet_op; refine hK _ ?_; clear hK K
  refine gq rfl rfl rfl rfl (fun K hK => ?_); go_big_quiet_op; refine hK _ ?_; clear hK K
  refine gq rfl rfl rfl rfl (fun K hK => ?_); go_big_quiet_op; refine hK _ ?_; clear hK K
  refine gc rfl rfl rfl rfl 57 #[.slice Ak key.length capk, v4] (fun _ => by go_simp) (Dig S1) (fun y => by have h := all_any _ _ key (xs ++ [x]) (w4.ext y) (Rd.ext HK.out (HX4.out.trans (ext_ext w4 y))) (HN4.out.grow (ext_ext w4 y)).its (by omega) HB1.out; rw [HS1.out] at h; exact h) ?_
  simp only [Act.put, List.setIfInBounds_toArray, List.set_cons_succ, List.set_cons_zero]
  refine gq rfl rfl rfl rfl (fun K hK => ?_); go_big_quiet_op; refine hK _ ?_; clear hK K
  refine gq rfl rfl rfl rfl (fun K hK => ?_); go_big_quiet_op; refine hK _ ?_; clear hK K
  refine gc rfl rfl rfl rfl 57 #[.slice Ak key.length capk, .slice Al xs.length capl] (fun _ => by go_simp) (Dig S) (fun y => by have h := all_any _ _ key xs (w4.ext y) (Rd.ext HK.out (HX4.out.trans (ext_ext w4 y))) (HI.out.ext (HX4.out.trans (ext_ext w4 y))) (by omega) HB0.out; rw [HS.out] at h; exact h) ?_
  simp only [Act.put, List.setIfInBounds_toArray, List.set_cons_succ, List.set_cons_zero]
  refine gx rfl rfl rfl rfl (Dig d) (fun y => exec_load27 (.tmp 7) rfl w1.heap.size rfl d Hdl.out _ (Blk.ext H4.out (ext_ext w4 y))) ?_
  simp only [Act.put, List.setIfInBounds_toArray, List.set_cons_succ, List.set_cons_zero]
  refine gc rfl rfl rfl rfl 59 #[Dig S, Dig d] (fun _ => by go_simp) (Dig S1) (fun y => by have h := add_any S d HSl.out Hdl.out (w4.ext y); rw [HAD.out] at h; exact h) ?_
  simp only [Act.put, List.setIfInBounds_toArray, List.set_cons_succ, List.set_cons_zero]
  refine ge rfl rfl rfl rfl _ (exec_eq27 _ _ _ rfl S1 S1 rfl rfl HS1l.out HS1l.out) ?_
  simp only [decide_true]
  simp only [Act.put, List.setIfInBounds_toArray, List.set_cons_succ, List.set_cons_zero]
  refine gq rfl rfl rfl rfl (fun K hK => ?_); go_big_quiet_op; refine hK _ ?_; clear hK K
  refine gq rfl rfl rfl rfl (fun K hK => ?_); go_big_quiet_op; refine hK _ ?_; clear hK K
  refine gq rfl rfl rfl rfl (fun K hK => ?_); go_big_quiet_op; refine hK _ ?_; clear hK K
  refine gq rfl rfl rfl rfl (fun K hK => ?_); go_big_quiet_op; refine hK _ ?_; clear hK K
  refine gq rfl rfl rfl rfl (fun K hK => ?_); go_big_quiet_op; refine hK _ ?_; clear hK K
  refine gv rfl rfl rfl rfl 69 rfl (ItsR [x, x]) ItsR.ext (fun y => ⟨_, _, by go_simp <;> first | exact ⟨rfl, rfl⟩ | rfl, HIxx.out (w4.ext y) (HX4.out.trans (ext_ext w4 y)), (Ext.refl _).alloc _⟩) ?_
  simp only [Act.put, List.setIfInBounds_toArray, List.set_cons_succ, List.set_cons_zero]
  refine gcx rfl rfl 57 (fun xs' => #[.slice Ak key.length capk, xs' 69]) (Dig dd) (fun xs' => rfl) (fun xs' w => by simp only [fillM, Act.put, List.setIfInBounds_toArray, List.set_cons_succ, List.set_cons_zero]; go_simp) (fun xs' y hk => by have hu : Its (w4.ext y) (xs' 69) [x, x] := hk 69 (by decide) (by simp) _ rfl; have h := all_any _ _ key [x, x] (w4.ext y) (Rd.ext HK.out (HX4.out.trans (ext_ext w4 y))) hu (by omega) HBX2.out; rw [HA2.out] at h; exact h) ?_
  simp only [Act.put, List.setIfInBounds_toArray, List.set_cons_succ, List.set_cons_zero]
  refine gx rfl rfl rfl rfl (Dig d) (fun y => exec_load27 (.tmp 7) rfl w1.heap.size rfl d Hdl.out _ (Blk.ext H4.out (ext_ext w4 y))) ?_
  simp only [Act.put, List.setIfInBounds_toArray, List.set_cons_succ, List.set_cons_zero]
  refine gx rfl rfl rfl rfl (Dig d) (fun y => exec_load27 (.tmp 7) rfl w1.heap.size rfl d Hdl.out _ (Blk.ext H4.out (ext_ext w4 y))) ?_
  simp only [Act.put, List.setIfInBounds_toArray, List.set_cons_succ, List.set_cons_zero]
  refine gc rfl rfl rfl rfl 59 #[Dig d, Dig d] (fun _ => by go_simp) (Dig dd) (fun y => by have h := add_any d d Hdl.out Hdl.out (w4.ext y); rw [HDD.out] at h; exact h) ?_
  simp only [Act.put, List.setIfInBounds_toArray, List.set_cons_succ, List.set_cons_zero]
  refine ge rfl rfl rfl rfl _ (exec_eq27 _ _ _ rfl dd dd rfl rfl Hddl.out Hddl.out) ?_
  simp only [decide_true]
  simp only [Act.put, List.setIfInBounds_toArray, List.set_cons_succ, List.set_cons_zero]
  refine gq rfl rfl rfl rfl (fun K hK => ?_); go_big_quiet_op; refine hK _ ?_; clear hK K
  refine gq rfl rfl rfl rfl (fun K hK => ?_); go_big_quiet_op; refine hK _ ?_; clear hK K
  refine gc rfl rfl rfl rfl 54 #[] (fun _ => by go_simp) (.bool true) (fun y => known5_any _) ?_
  simp only [Act.put, List.setIfInBounds_toArray, List.set_cons_succ, List.set_cons_zero]
  refine gq rfl rfl rfl rfl (fun K hK => ?_); go_big_quiet_op; refine hK _ ?_; clear hK K
  refine gq rfl rfl rfl rfl (fun K hK => ?_); go_big_quiet_op; refine hK _ ?_; clear hK K
  refine gm_end_at rfl [(69, ItsR [x, x]), (49, ItsR [x])] rfl (fun xs' y hk => ?_)
  clear hk
  simp only [fillM, Act.put, List.setIfInBounds_toArray, List.set_cons_succ, List.set_cons_zero]
  go_wp2
  go_ret
  exact ⟨rfl, HX4.out.trans (ext_ext w4 y)⟩
end Go.Proofs.Ytapojpjmeadabaa
end

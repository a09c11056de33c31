/- sacristanlaw03.MacTags: the tag is that of the chapter. -/
import Derived.Test.YtapojpjmeadabaaKnown3
import Derived.Test.YtapojpjmeadabaaSums
namespace Go.Proofs.Ytapojpjmeadabaa
open Go.RowKit
set_option linter.unusedVariables false
set_option linter.unusedSimpArgs false
attribute [local go_sem] lt_ext cell?_ext frozen?_ext shape?_ext

set_option maxRecDepth 100000 in
set_option maxHeartbeats 2000000 in
theorem tags_of (m : List UInt8) (kv lv tv : Value) (key tag : List UInt8) (vs : List Value) (ls : List (List UInt8)) (w : World) (hm : Hid (ls.flatten = m)) (hK : Bs w kv key) (hL : Rss w lv vs ls) (hT : Bs w tv tag) (hle : m.length ≤ 1048576) :
    Calls Try.prog 10 #[kv, lv, tv] w fun e w' => e = .returned (.bool true) ∧ Ext w w' := by
  obtain ⟨A, cap, rfl, hcap, hcm, _, _⟩ := hL.rd.is
  obtain ⟨Ak, capk, rfl, hcapk, hcmk, _, _⟩ := hK.is
  obtain ⟨At, capt, rfl, hcapt, hcmt, _, _⟩ := hT.is
  unfold maxLen at hcm hcmk hcmt
  have HL := Lib.hid hL
  have HK := Lib.hid hK
  have HT := Lib.hid hT
  clear hL hK hT
  by_cases h1 : 300 < key.length
  · skip
    go_enter Try.func10, Try.ntmps10
    go_wp2_with (first | (go_at_call 28; go_must (refine (join_fl m _ vs ls _ hm HL.out (by omega)).mono ?_; rintro e w1 ⟨v, rfl, hn⟩; obtain ⟨A1, cap1, rfl, hcap1, hcm1, _, _⟩ := hn.bs.is; have HX1 := Lib.hid hn.ext; clear hn)) | (go_at_call 45; go_must (refine (known3_any _).mono ?_; rintro e w2 ⟨rfl, hx2⟩; have HX2 := Lib.hid (HX1.out.trans hx2); clear hx2)))
    go_ret
    exact ⟨rfl, HX2.out⟩
  by_cases h2 : 1000 < m.length
  · skip
    go_enter Try.func10, Try.ntmps10
    go_wp2_with (first | (go_at_call 28; go_must (refine (join_fl m _ vs ls _ hm HL.out (by omega)).mono ?_; rintro e w1 ⟨v, rfl, hn⟩; obtain ⟨A1, cap1, rfl, hcap1, hcm1, _, _⟩ := hn.bs.is; have HX1 := Lib.hid hn.ext; clear hn)) | (go_at_call 45; go_must (refine (known3_any _).mono ?_; rintro e w2 ⟨rfl, hx2⟩; have HX2 := Lib.hid (HX1.out.trans hx2); clear hx2)))
    go_ret
    exact ⟨rfl, HX2.out⟩
  by_cases h3 : 50 < ls.length
  · skip
    go_enter Try.func10, Try.ntmps10
    go_wp2_with (first | (go_at_call 28; go_must (refine (join_fl m _ vs ls _ hm HL.out (by omega)).mono ?_; rintro e w1 ⟨v, rfl, hn⟩; obtain ⟨A1, cap1, rfl, hcap1, hcm1, _, _⟩ := hn.bs.is; have HX1 := Lib.hid hn.ext; clear hn)) | (go_at_call 45; go_must (refine (known3_any _).mono ?_; rintro e w2 ⟨rfl, hx2⟩; have HX2 := Lib.hid (HX1.out.trans hx2); clear hx2)))
    go_ret
    exact ⟨rfl, HX2.out⟩
  by_cases h4 : 100 < tag.length
  · skip
    go_enter Try.func10, Try.ntmps10
    go_wp2_with (first | (go_at_call 28; go_must (refine (join_fl m _ vs ls _ hm HL.out (by omega)).mono ?_; rintro e w1 ⟨v, rfl, hn⟩; obtain ⟨A1, cap1, rfl, hcap1, hcm1, _, _⟩ := hn.bs.is; have HX1 := Lib.hid hn.ext; clear hn)) | (go_at_call 45; go_must (refine (known3_any _).mono ?_; rintro e w2 ⟨rfl, hx2⟩; have HX2 := Lib.hid (HX1.out.trans hx2); clear hx2)))
    go_ret
    exact ⟨rfl, HX2.out⟩
  obtain ⟨D, hD⟩ : ∃ D, Sha.tag key m = D := ⟨_, rfl⟩
  have HDl : Hid (D.length = 32) := Lib.hid (by rw [← hD]; exact Sha.tag_length _ _)
  obtain ⟨b, hb⟩ : ∃ b, decide (D = tag) = b := ⟨_, rfl⟩
  have HB2 : Hid (decide (tag = D) = b) := Lib.hid (by rw [← hb]; simp only [eq_comm])
  have HB := Lib.hid hb
  have HD := Lib.hid hD
  clear hD hb
  go_enter Try.func10, Try.ntmps10
  go_wp2_with (first | (go_at_call 28; go_must (refine (join_fl m _ vs ls _ hm HL.out (by omega)).mono ?_; rintro e w1 ⟨v, rfl, hn⟩; obtain ⟨A1, cap1, rfl, hcap1, hcm1, _, _⟩ := hn.bs.is; have HM := Lib.hid hn.bs; have HX1 := Lib.hid hn.ext; clear hn)) | (go_at_call 46; go_must (refine (rtag_any _ _ key m _ (Rd.ext HK.out HX1.out) HM.out (by omega) (by omega)).mono ?_; rintro e w2 ⟨rfl, hx2⟩; rw [HD.out]; have HX2 := Lib.hid (HX1.out.trans hx2); clear hx2)) | (refine wpl_alloc_agg rfl 27 rfl _ zero27.1 ?_) | (refine wpl_store27 rfl _ _ rfl w2.heap.size D (Sha.zeros 32) rfl rfl HDl.out (by simp [Sha.zeros]) (heap_alloc_last w2 _) ?_; intro w3 h3 hu3; have H3 : Hid (Blk w3 w2.heap.size 27 D) := Lib.hid h3; have HX3 := Lib.hid (HX2.out.trans (((Ext.refl w2).alloc _).upd_new hu3 (Nat.le_refl _))); clear h3 hu3))
  refine wp_region_m (by kernel_rfl) (by kernel_rfl) ?_; try simp only [Act.put, List.setIfInBounds_toArray, List.set_cons_succ, List.set_cons_zero]
  repeat (refine gq rfl rfl rfl rfl (fun K hK => ?_); go_big_quiet_op; refine hK _ ?_; clear hK K)
  refine gc rfl rfl rfl rfl 47 #[.slice Ak key.length capk, .slice A ls.length cap] (fun _ => by go_simp) (Dig D) (fun x => by have h := tag_fl m _ _ key vs ls _ (Rd.ext HK.out (HX3.out.trans (ext_ext w3 x))) (HL.out.ext (HX3.out.trans (ext_ext w3 x))) (by omega) hm (by omega); rw [HD.out] at h; exact h) ?_
  simp only [Act.put, List.setIfInBounds_toArray, List.set_cons_succ, List.set_cons_zero]
  refine gx rfl rfl rfl rfl _ (fun x => exec_load27 _ rfl w2.heap.size rfl D HDl.out _ (Blk.ext H3.out (ext_ext w3 x))) ?_
  simp only [Act.put, List.setIfInBounds_toArray, List.set_cons_succ, List.set_cons_zero]
  refine ge rfl rfl rfl rfl _ (exec_eq27 _ _ _ rfl D D rfl rfl HDl.out HDl.out) ?_
  simp only [decide_true]
  simp only [Act.put, List.setIfInBounds_toArray, List.set_cons_succ, List.set_cons_zero]
  repeat (refine gq rfl rfl rfl rfl (fun K hK => ?_); go_big_quiet_op; refine hK _ ?_; clear hK K)
  refine gc rfl rfl rfl rfl 48 #[.slice Ak key.length capk, .slice At tag.length capt, .slice A ls.length cap] (fun _ => by go_simp) (.bool b) (fun x => by have h := check_any m _ _ _ key tag vs ls _ (Rd.ext HK.out (HX3.out.trans (ext_ext w3 x))) (Rd.ext HT.out (HX3.out.trans (ext_ext w3 x))) (HL.out.ext (HX3.out.trans (ext_ext w3 x))) (by omega) hm (by omega); rw [HD.out, HB.out] at h; exact h) ?_
  simp only [Act.put, List.setIfInBounds_toArray, List.set_cons_succ, List.set_cons_zero]
  repeat (refine gq rfl rfl rfl rfl (fun K hK => ?_); go_big_quiet_op; refine hK _ ?_; clear hK K)
  refine gx rfl rfl rfl rfl _ (fun x => exec_load27 _ rfl w2.heap.size rfl D HDl.out _ (Blk.ext H3.out (ext_ext w3 x))) ?_
  simp only [Act.put, List.setIfInBounds_toArray, List.set_cons_succ, List.set_cons_zero]
  refine gcp rfl rfl rfl rfl 50 #[Dig D] (fun _ => by go_simp) 45 rfl (BsR D) BsR.ext (fun x => (slice_any D HDl.out _).mono (fun e w' ⟨v, he, hn⟩ => ⟨v, he, hn.bs, hn.ext⟩)) ?_
  simp only [Act.put, List.setIfInBounds_toArray, List.set_cons_succ, List.set_cons_zero]
  refine gcx rfl rfl 49 (fun xs => #[.slice At tag.length capt, xs 45]) (.bool b) (fun xs => rfl) (fun xs w => by simp only [fillM, Act.put, List.setIfInBounds_toArray, List.set_cons_succ, List.set_cons_zero]; go_simp) (fun xs x hk => (same_any _ _ tag D _ (Rd.ext HT.out (HX3.out.trans (ext_ext w3 x))) (hk 45 (by decide) (by simp) _ rfl)).mono (fun e w' ⟨he, hw⟩ => ⟨by rw [he, HB2.out], by rw [← hw]; exact Ext.refl _⟩)) ?_
  simp only [Act.put, List.setIfInBounds_toArray, List.set_cons_succ, List.set_cons_zero]
  repeat (refine gq rfl rfl rfl rfl (fun K hK => ?_); go_big_quiet_op; refine hK _ ?_; clear hK K)
  refine gc rfl rfl rfl rfl 45 #[] (fun _ => by go_simp) (.bool true) (fun x => known3_any _) ?_
  simp only [Act.put, List.setIfInBounds_toArray, List.set_cons_succ, List.set_cons_zero]
  repeat (refine gq rfl rfl rfl rfl (fun K hK => ?_); go_big_quiet_op; refine hK _ ?_; clear hK K)
  refine gm_end_at rfl [(45, BsR D)] rfl (fun xs x hk => ?_)
  clear hk
  simp only [fillM, Act.put, List.setIfInBounds_toArray, List.set_cons_succ, List.set_cons_zero]
  go_wp2
  go_ret
  exact ⟨rfl, HX3.out.trans (ext_ext w3 x)⟩
theorem tags_any (kv lv tv : Value) (key tag : List UInt8) (vs : List Value) (ls : List (List UInt8)) (w : World) (hK : Bs w kv key) (hL : Rss w lv vs ls) (hT : Bs w tv tag) (hle : ls.flatten.length ≤ 1048576) :
    Calls Try.prog 10 #[kv, lv, tv] w fun e w' => e = .returned (.bool true) ∧ Ext w w' := tags_of ls.flatten kv lv tv key tag vs ls w (Lib.hid rfl) hK hL hT hle
end Go.Proofs.Ytapojpjmeadabaa

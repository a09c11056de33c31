/- sacristanlaw03.MacKeys: keys with noughts behind them, long keys, pieces. -/
import Derived.Test.YtapojpjmeadabaaKnown3
import Derived.Test.YtapojpjmeadabaaPads
namespace Go.Proofs.Ytapojpjmeadabaa
open Go.RowKit
set_option linter.unusedVariables false
set_option linter.unusedSimpArgs false
attribute [local go_sem] lt_ext cell?_ext frozen?_ext shape?_ext

theorem tag_long (key m : List UInt8) (h : 64 < key.length) : Sha.tag (Sha.sum key) m = Sha.tag key m := by
  have e : Sha.keyOf (Sha.sum key) = Sha.keyOf key := by
    unfold Sha.keyOf
    rw [if_neg (by rw [Sha.sum_length]; decide), if_pos h]
  unfold Sha.tag
  rw [e]
theorem tag_zeros (key m : List UInt8) (j : Nat) (h : key.length + j ≤ 64) : Sha.tag (key ++ Sha.zeros j) m = Sha.tag key m := by
  have hl : (key ++ Sha.zeros j).length = key.length + j := by simp [Sha.zeros]
  have e : ∀ c, Sha.pad (Sha.keyOf (key ++ Sha.zeros j)) c = Sha.pad (Sha.keyOf key) c := by
    intro c
    unfold Sha.keyOf
    rw [if_neg (by omega), if_neg (by omega)]
    unfold Sha.pad
    rw [hl, List.append_assoc]
    congr 2
    simp only [Sha.zeros, List.replicate_append_replicate]
    congr 1
    omega
  unfold Sha.tag
  rw [e, e]
set_option maxRecDepth 100000 in
set_option maxHeartbeats 3000000 in
theorem keys_of (kv va vb : Value) (key la lb : List UInt8) (more : Nat) (hmo : more < 256) (ha0 : la.length ≤ 140737488355328) (hb0 : lb.length ≤ 140737488355328) (w : World) (hK : Bs w kv key) (hA : Bs w va la) (hB : Bs w vb lb) :
    Calls Try.prog 13 #[kv, .int .u8 (more : Int), va, vb] w fun e w' => e = .returned (.bool true) ∧ Ext w w' := by
  obtain ⟨Ak, capk, rfl, hcapk, hcmk, _, _⟩ := hK.is
  obtain ⟨Aa, capa, rfl, hcapa, hcma, _, _⟩ := hA.is
  obtain ⟨Ab, capb, rfl, hcapb, hcmb, _, _⟩ := hB.is
  unfold maxLen at hcmk hcma hcmb
  have HK := Lib.hid hK
  have HA := Lib.hid hA
  have HB := Lib.hid hB
  clear hK hA hB
  by_cases h1 : 150 < key.length
  · skip
    go_enter Try.func13, Try.ntmps13
    go_wp2_with (go_at_call 45; go_must (refine (known3_any _).mono ?_; rintro e w2 ⟨rfl, hx2⟩; have HX2 := Lib.hid hx2; clear hx2))
    go_ret
    exact ⟨rfl, HX2.out⟩
  by_cases h2 : 500 < la.length + lb.length
  · skip
    go_enter Try.func13, Try.ntmps13
    go_wp2_with (go_at_call 45; go_must (refine (known3_any _).mono ?_; rintro e w2 ⟨rfl, hx2⟩; have HX2 := Lib.hid hx2; clear hx2))
    go_ret
    exact ⟨rfl, HX2.out⟩
  obtain ⟨m, hm⟩ : ∃ m, la ++ lb = m := ⟨_, rfl⟩
  have hml : m.length ≤ 500 := by rw [← hm, List.length_append]; omega
  obtain ⟨D, hD⟩ : ∃ D, Sha.tag key m = D := ⟨_, rfl⟩
  have hDl : D.length = 32 := by rw [← hD]; exact Sha.tag_length _ _
  have HDl := Lib.hid hDl
  have HD := Lib.hid hD
  have HM := Lib.hid hm
  clear hD hDl hm
  have T0 : True := trivial
  go_enter Try.func13, Try.ntmps13
  go_wp2_with (first | (go_at_call 47; go_must (refine (tag_two D m la lb _ _ _ key _ _ (by simp) HM HD HK.out HA.out HB.out (by omega) (by omega)).mono ?_; rintro e w1 ⟨rfl, hx1⟩; have HX1 := Lib.hid hx1; clear hx1)) | (refine wpl_alloc_agg rfl 27 rfl _ zero27.1 ?_) | (refine wpl_store27 rfl _ _ rfl w1.heap.size D (Sha.zeros 32) rfl rfl HDl.out (by simp [Sha.zeros]) (heap_alloc_last w1 _) ?_; intro w2 h2 hu2; have H2 : Hid (Blk w2 w1.heap.size 27 D) := Lib.hid h2; have hs2 : w1.heap.size < w2.heap.size := H2.out.lt; have HX2 := Lib.hid (HX1.out.trans (((Ext.refl w1).alloc _).upd_new hu2 (Nat.le_refl _))); clear h2 hu2) | (at_builtin; clear T0; go_must (refine wpList_append_bs rfl _ _ rfl (.slice none 0 0) rfl (l := []) (Own.nil _ _ _) _ rfl (Rd.ext HA.out HX2.out) (by simp; omega) ?_; intro v3 w3 ho3 hg3 hf3; have HN3 := Lib.hid ((NewB.nil (Ext.refl w2)).app ho3 hg3 hf3); rw [List.nil_append] at HN3; have T1 : True := trivial; clear ho3 hg3 hf3)) | (at_builtin; clear T1; go_must (refine wpList_append_bs rfl _ _ rfl _ rfl HN3.out.own _ rfl (Rd.ext HB.out (HX2.out.trans HN3.out.ext)) (by omega) ?_; intro v4 w4 ho4 hg4 hf4; have HN4 := Lib.hid (HN3.out.app ho4 hg4 hf4); rw [HM.out] at HN4; have T2 : True := trivial; have hs4 : w2.heap.size ≤ w4.heap.size := HN4.out.ext.size; clear ho4 hg4 hf4)))
  have H4 := Lib.hid (Blk.ext H2.out HN4.out.ext)
  have HX4 := Lib.hid (HX2.out.trans HN4.out.ext)
  obtain ⟨A4, cap4, e4, _⟩ := HN4.out.bs.is
  have HM4 := Lib.hid HN4.out.bs
  rw [e4] at HM4 ⊢
  refine wp_region_m (by kernel_rfl) (by kernel_rfl) ?_; try simp only [Act.put, List.setIfInBounds_toArray, List.set_cons_succ, List.set_cons_zero]
  repeat (refine gq rfl rfl rfl rfl (fun K hK => ?_); go_big_quiet_op; refine hK _ ?_; clear hK K)
  refine gv rfl rfl rfl rfl 39 rfl (RssR [m]) RssR.ext (fun x => ⟨_, _, by go_simp <;> first | exact ⟨rfl, rfl⟩ | rfl, ⟨_, Rss.one _ _ m (Rd.ext HM4.out (ext_ext w4 x))⟩, (Ext.refl _).alloc _⟩) ?_
  simp only [Act.put, List.setIfInBounds_toArray, List.set_cons_succ, List.set_cons_zero]
  refine gcx rfl rfl 47 (fun xs => #[.slice Ak key.length capk, xs 39]) (Dig D) (fun xs => rfl) (fun xs w => by simp only [fillM, Act.put, List.setIfInBounds_toArray, List.set_cons_succ, List.set_cons_zero]; go_simp) (fun xs x hk => by obtain ⟨vs, hu⟩ := hk 39 (by decide) (by simp) _ rfl; have h := tag_fl m _ _ key vs [m] _ (Rd.ext HK.out (HX4.out.trans (ext_ext w4 x))) hu (by omega) (Lib.hid (by simp)) (by omega); rw [HD.out] at h; exact h) ?_
  simp only [Act.put, List.setIfInBounds_toArray, List.set_cons_succ, List.set_cons_zero]
  refine gx rfl rfl rfl rfl _ (fun x => exec_load27 _ rfl w1.heap.size rfl D HDl.out _ (Blk.ext H4.out (ext_ext w4 x))) ?_
  simp only [Act.put, List.setIfInBounds_toArray, List.set_cons_succ, List.set_cons_zero]
  refine ge rfl rfl rfl rfl _ (exec_ne27 _ _ _ rfl D D rfl rfl HDl.out HDl.out) ?_
  simp only [decide_true]
  simp only [Act.put, List.setIfInBounds_toArray, List.set_cons_succ, List.set_cons_zero]
  refine gm_end_at rfl [(39, RssR [m])] rfl (fun xs x hk => ?_)
  clear hk
  simp only [fillM, Act.put, List.setIfInBounds_toArray, List.set_cons_succ, List.set_cons_zero]
  have H5 := Lib.hid (Blk.ext H4.out (ext_ext w4 x))
  have HX5 := Lib.hid (HX4.out.trans (ext_ext w4 x))
  have HM5 := Lib.hid (Rd.ext HM4.out (ext_ext w4 x))
  clear HN3 HN4 H2 HX1 HX2 HX4 HM4 H4 hs2 hs4
  generalize xs 39 = v39
  generalize w4.ext x = w5 at *
  by_cases h64 : 64 < key.length
  · obtain ⟨S, hS⟩ : ∃ S, Sha.sum key = S := ⟨_, rfl⟩
    have hSl : S.length = 32 := by rw [← hS]; exact Sha.sum_length _
    have HSD : Hid (Sha.tag S m = D) := Lib.hid (by rw [← hS, tag_long _ _ h64]; exact HD.out)
    have HSl := Lib.hid hSl
    have hSle : S.length ≤ 32 := Nat.le_of_eq hSl
    have HS := Lib.hid hS
    clear hS hSl
    go_wp2_with (first | (go_at_call 31; go_must (refine (refsum_any _ key (by omega) _ (Rd.ext HK.out HX5.out)).mono ?_; rintro e w6 ⟨rfl, hx6⟩; rw [HS.out]; have HX6 := Lib.hid (HX5.out.trans hx6); have H6 := Lib.hid (Blk.ext H5.out hx6); have HM6 := Lib.hid (Rd.ext HM5.out hx6); clear hx6)) | (refine wpl_alloc_agg rfl 27 rfl _ zero27.1 ?_) | (refine wpl_store27 rfl _ _ rfl w6.heap.size S (Sha.zeros 32) rfl rfl HSl.out (by simp [Sha.zeros]) (heap_alloc_last w6 _) ?_; intro w7 h7 hu7; have H7 : Hid (Blk w7 w6.heap.size 27 S) := Lib.hid h7; have hs7 : w6.heap.size < w7.heap.size := H7.out.lt; have hx7 : Ext w6 w7 := ((Ext.refl w6).alloc _).upd_new hu7 (Nat.le_refl _); have HX7 := Lib.hid (HX6.out.trans hx7); have HD7 := Lib.hid (Blk.ext H6.out hx7); have HM7 := Lib.hid (Rd.ext HM6.out hx7); clear h7 hu7 hx7))
    refine wp_region_m (by kernel_rfl) (by kernel_rfl) ?_; try simp only [Act.put, List.setIfInBounds_toArray, List.set_cons_succ, List.set_cons_zero]
    repeat (refine gq rfl rfl rfl rfl (fun K hK => ?_); go_big_quiet_op; refine hK _ ?_; clear hK K)
    refine gv rfl rfl rfl rfl 50 rfl (RssR [m]) RssR.ext (fun x => ⟨_, _, by go_simp <;> first | exact ⟨rfl, rfl⟩ | rfl, ⟨_, Rss.one _ _ m (Rd.ext HM7.out (ext_ext w7 x))⟩, (Ext.refl _).alloc _⟩) ?_
    simp only [Act.put, List.setIfInBounds_toArray, List.set_cons_succ, List.set_cons_zero]
    refine gcx rfl rfl 47 (fun xs => #[.slice (some ⟨w6.heap.size, 0, none⟩) 32 32, xs 50]) (Dig D) (fun xs => rfl) (fun xs w => by simp only [fillM, Act.put, List.setIfInBounds_toArray, List.set_cons_succ, List.set_cons_zero]; go_simp) (fun xs x hk => by obtain ⟨vs, hu⟩ := hk 50 (by decide) (by simp) _ rfl; have h := tag_fl m _ _ S vs [m] _ (Blk.whole (Blk.ext H7.out (ext_ext w7 x)) 32 32 HSl.out.symm (Nat.le_refl _) (by decide)) hu (by omega) (Lib.hid (by simp)) (by omega); rw [HSD.out] at h; exact h) ?_
    simp only [Act.put, List.setIfInBounds_toArray, List.set_cons_succ, List.set_cons_zero]
    refine gx rfl rfl rfl rfl _ (fun x => exec_load27 _ rfl w1.heap.size rfl D HDl.out _ (Blk.ext HD7.out (ext_ext w7 x))) ?_
    simp only [Act.put, List.setIfInBounds_toArray, List.set_cons_succ, List.set_cons_zero]
    refine ge rfl rfl rfl rfl _ (exec_eq27 _ _ _ rfl D D rfl rfl HDl.out HDl.out) ?_
    simp only [decide_true]
    simp only [Act.put, List.setIfInBounds_toArray, List.set_cons_succ, List.set_cons_zero]
    repeat (refine gq rfl rfl rfl rfl (fun K hK => ?_); go_big_quiet_op; refine hK _ ?_; clear hK K)
    refine gc rfl rfl rfl rfl 45 #[] (fun _ => by go_simp) (.bool true) (fun x => known3_any _) ?_
    simp only [Act.put, List.setIfInBounds_toArray, List.set_cons_succ, List.set_cons_zero]
    repeat (refine gq rfl rfl rfl rfl (fun K hK => ?_); go_big_quiet_op; refine hK _ ?_; clear hK K)
    refine gm_end_at rfl [(50, RssR [m])] rfl (fun xs x hk => ?_)
    clear hk
    simp only [fillM, Act.put, List.setIfInBounds_toArray, List.set_cons_succ, List.set_cons_zero]
    go_wp2
    go_ret
    exact ⟨rfl, HX7.out.trans (ext_ext w7 x)⟩
  · go_wp2_with (go_at_call 51; go_must (refine (copy0_any _ key _ (Rd.ext HK.out HX5.out) (by omega)).mono ?_; rintro e w6 ⟨v6, rfl, hn6⟩; have HN6 := Lib.hid hn6; clear hn6))
    go_loopw [12, 13] (fun v i wr => ∃ (n j : Nat), n ≤ more ∧ key.length + j ≤ 64 ∧ i = .int .i64 n ∧ NewB w5 v (key ++ Sha.zeros j) wr) (fun _ i _ => more - (intOf i).toNat)
    case atStart => exact ⟨0, 0, by omega, by omega, rfl, by simpa [Sha.zeros] using HN6.out⟩
    case round =>
      obtain ⟨n, j, hn, hj, rfl, hnew⟩ := hrel
      have hL : (key ++ Sha.zeros j).length = key.length + j := by simp [Sha.zeros]
      have HZ : Hid (key ++ Sha.zeros (j + 1) = (key ++ Sha.zeros j) ++ [0]) := Lib.hid (by simp [Sha.zeros, List.replicate_succ'])
      have HTZ : Hid (Sha.tag (key ++ Sha.zeros j) m = D) := Lib.hid (by rw [tag_zeros _ _ _ hj]; exact HD.out)
      obtain ⟨A6, cap6, rfl, hcap6, hcm6, _, _⟩ := hnew.bs.is
      have hLl : (key ++ Sha.zeros j).length ≤ 64 := by omega
      have HN := Lib.hid hnew
      generalize key ++ Sha.zeros j = L at *
      have HLL := Lib.hid hL
      clear hnew hL HN6
      by_cases hc : n < more ∧ L.length < 64
      · obtain ⟨hc1, hc2⟩ := hc
        go_wp2_with (at_builtin; go_must (refine wpList_append_bs rfl _ _ rfl _ rfl (HN.out.grow ((Ext.refl wr).alloc _)).own _ rfl (Bs.lit_new wr _ [0] rfl (by simp)) (by simp; omega) ?_; intro v1 w7 ho1 hg1 hf1; have HN1 := Lib.hid ((HN.out.grow ((Ext.refl wr).alloc _)).app ho1 hg1 hf1); clear ho1 hg1 hf1))
        go_roundw
        case rel => exact ⟨n + 1, j + 1, by omega, by have := HLL.out; omega, by go_num, by rw [HZ.out]; exact HN1.out⟩
        case measure => simp [intOf]; omega
      · have HC := Lib.hid hc
        have HNb := Lib.hid HN.out.bs
        have HX8 := Lib.hid (HX5.out.trans HN.out.ext)
        have HD8 := Lib.hid (Blk.ext H5.out HN.out.ext)
        clear hc
        by_cases hc1 : n < more
        · have hc2 : ¬ L.length < 64 := fun h => HC.out ⟨hc1, h⟩
          go_wp2
          refine wp_region_m (by kernel_rfl) (by kernel_rfl) ?_; try simp only [Act.put, List.setIfInBounds_toArray, List.set_cons_succ, List.set_cons_zero]
          repeat (refine gq rfl rfl rfl rfl (fun K hK => ?_); go_big_quiet_op; refine hK _ ?_; clear hK K)
          refine gv rfl rfl rfl rfl 76 rfl (RssR [la, lb]) RssR.ext (fun x => ⟨_, _, by go_simp <;> first | exact ⟨rfl, rfl⟩ | rfl, ⟨_, Rss.two _ _ _ la lb (Rd.ext HA.out (HX8.out.trans (ext_ext wr x))) (Rd.ext HB.out (HX8.out.trans (ext_ext wr x)))⟩, (Ext.refl _).alloc _⟩) ?_
          simp only [Act.put, List.setIfInBounds_toArray, List.set_cons_succ, List.set_cons_zero]
          refine gcx rfl rfl 47 (fun xs => #[.slice A6 L.length cap6, xs 76]) (Dig D) (fun xs => rfl) (fun xs w => by simp only [fillM, Act.put, List.setIfInBounds_toArray, List.set_cons_succ, List.set_cons_zero]; go_simp) (fun xs x hk => by obtain ⟨vs, hu⟩ := hk 76 (by decide) (by simp) _ rfl; have h := tag_fl m _ _ L vs [la, lb] _ (Rd.ext HNb.out (ext_ext wr x)) hu (by omega) (Lib.hid (by rw [← HM.out]; simp)) (by omega); rw [HTZ.out] at h; exact h) ?_
          simp only [Act.put, List.setIfInBounds_toArray, List.set_cons_succ, List.set_cons_zero]
          refine gx rfl rfl rfl rfl _ (fun x => exec_load27 _ rfl w1.heap.size rfl D HDl.out _ (Blk.ext HD8.out (ext_ext wr x))) ?_
          simp only [Act.put, List.setIfInBounds_toArray, List.set_cons_succ, List.set_cons_zero]
          refine ge rfl rfl rfl rfl _ (exec_eq27 _ _ _ rfl D D rfl rfl HDl.out HDl.out) ?_
          simp only [decide_true]
          simp only [Act.put, List.setIfInBounds_toArray, List.set_cons_succ, List.set_cons_zero]
          repeat (refine gq rfl rfl rfl rfl (fun K hK => ?_); go_big_quiet_op; refine hK _ ?_; clear hK K)
          refine gc rfl rfl rfl rfl 45 #[] (fun _ => by go_simp) (.bool true) (fun x => known3_any _) ?_
          simp only [Act.put, List.setIfInBounds_toArray, List.set_cons_succ, List.set_cons_zero]
          repeat (refine gq rfl rfl rfl rfl (fun K hK => ?_); go_big_quiet_op; refine hK _ ?_; clear hK K)
          refine gm_end_at rfl [(76, RssR [la, lb])] rfl (fun xs x hk => ?_)
          clear hk
          simp only [fillM, Act.put, List.setIfInBounds_toArray, List.set_cons_succ, List.set_cons_zero]
          go_wp2
          go_ret
          exact ⟨rfl, HX8.out.trans (ext_ext wr x)⟩
        · skip
          go_wp2
          refine wp_region_m (by kernel_rfl) (by kernel_rfl) ?_; try simp only [Act.put, List.setIfInBounds_toArray, List.set_cons_succ, List.set_cons_zero]
          repeat (refine gq rfl rfl rfl rfl (fun K hK => ?_); go_big_quiet_op; refine hK _ ?_; clear hK K)
          refine gv rfl rfl rfl rfl 76 rfl (RssR [la, lb]) RssR.ext (fun x => ⟨_, _, by go_simp <;> first | exact ⟨rfl, rfl⟩ | rfl, ⟨_, Rss.two _ _ _ la lb (Rd.ext HA.out (HX8.out.trans (ext_ext wr x))) (Rd.ext HB.out (HX8.out.trans (ext_ext wr x)))⟩, (Ext.refl _).alloc _⟩) ?_
          simp only [Act.put, List.setIfInBounds_toArray, List.set_cons_succ, List.set_cons_zero]
          refine gcx rfl rfl 47 (fun xs => #[.slice A6 L.length cap6, xs 76]) (Dig D) (fun xs => rfl) (fun xs w => by simp only [fillM, Act.put, List.setIfInBounds_toArray, List.set_cons_succ, List.set_cons_zero]; go_simp) (fun xs x hk => by obtain ⟨vs, hu⟩ := hk 76 (by decide) (by simp) _ rfl; have h := tag_fl m _ _ L vs [la, lb] _ (Rd.ext HNb.out (ext_ext wr x)) hu (by omega) (Lib.hid (by rw [← HM.out]; simp)) (by omega); rw [HTZ.out] at h; exact h) ?_
          simp only [Act.put, List.setIfInBounds_toArray, List.set_cons_succ, List.set_cons_zero]
          refine gx rfl rfl rfl rfl _ (fun x => exec_load27 _ rfl w1.heap.size rfl D HDl.out _ (Blk.ext HD8.out (ext_ext wr x))) ?_
          simp only [Act.put, List.setIfInBounds_toArray, List.set_cons_succ, List.set_cons_zero]
          refine ge rfl rfl rfl rfl _ (exec_eq27 _ _ _ rfl D D rfl rfl HDl.out HDl.out) ?_
          simp only [decide_true]
          simp only [Act.put, List.setIfInBounds_toArray, List.set_cons_succ, List.set_cons_zero]
          repeat (refine gq rfl rfl rfl rfl (fun K hK => ?_); go_big_quiet_op; refine hK _ ?_; clear hK K)
          refine gc rfl rfl rfl rfl 45 #[] (fun _ => by go_simp) (.bool true) (fun x => known3_any _) ?_
          simp only [Act.put, List.setIfInBounds_toArray, List.set_cons_succ, List.set_cons_zero]
          repeat (refine gq rfl rfl rfl rfl (fun K hK => ?_); go_big_quiet_op; refine hK _ ?_; clear hK K)
          refine gm_end_at rfl [(76, RssR [la, lb])] rfl (fun xs x hk => ?_)
          clear hk
          simp only [fillM, Act.put, List.setIfInBounds_toArray, List.set_cons_succ, List.set_cons_zero]
          go_wp2
          go_ret
          exact ⟨rfl, HX8.out.trans (ext_ext wr x)⟩
theorem keys_any (kv va vb : Value) (key la lb : List UInt8) (more : UInt8) (ha0 : la.length ≤ 140737488355328) (hb0 : lb.length ≤ 140737488355328) (w : World) (hK : Bs w kv key) (hA : Bs w va la) (hB : Bs w vb lb) :
    Calls Try.prog 13 #[kv, B8 more, va, vb] w fun e w' => e = .returned (.bool true) ∧ Ext w w' := keys_of kv va vb key la lb more.toNat more.toNat_lt ha0 hb0 w hK hA hB
end Go.Proofs.Ytapojpjmeadabaa

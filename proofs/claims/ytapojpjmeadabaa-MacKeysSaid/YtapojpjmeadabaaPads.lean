/- sacristanlaw02.ShaPads: bytes of one kind at each length about a block's end. -/
import Derived.Test.YtapojpjmeadabaaByt
import Derived.Test.YtapojpjmeadabaaRefh
import Derived.Test.YtapojpjmeadabaaCopies
import Derived.Test.YtapojpjmeadabaaOne
namespace Go.Proofs.Ytapojpjmeadabaa
open Go.RowKit
set_option linter.unusedVariables false
set_option linter.unusedSimpArgs false
attribute [local go_sem] lt_ext cell?_ext frozen?_ext shape?_ext

theorem set_next (c : UInt8) (k j : Nat) (hj : j < k) : (List.replicate j c ++ Sha.zeros (k - j)).set j c = List.replicate (j + 1) c ++ Sha.zeros (k - (j + 1)) := by
  rw [List.set_append_right _ _ (by simp)]
  obtain ⟨m, hm⟩ : ∃ m, k - j = m + 1 := ⟨k - j - 1, by omega⟩
  rw [hm, show k - (j + 1) = m by omega]
  rw [Sha.zeros, List.replicate_succ (n := m), List.replicate_succ' (n := j)]
  simp [Sha.zeros]
set_option maxRecDepth 100000 in
set_option maxHeartbeats 2000000 in
theorem pads_any (c : UInt8) (n : Nat) (hn : n < 256) (w : World) :
    Calls Try.prog 8 #[B8 c, .int .u8 (n : Int)] w fun e w' => e = .returned (.bool true) ∧ Ext w w' := by
  obtain ⟨k, hk, hk0, hk1⟩ : ∃ k : Nat, 50 + (n : Int) % 90 = (k : Int) ∧ 50 ≤ k ∧ k < 140 := ⟨50 + n % 90, by omega, by omega, by omega⟩
  go_enter Try.func8, Try.ntmps8
  go_wp2_with (refine wpl_make23 rfl _ _ rfl k rfl rfl (by omega) ?_; intro w1 h1 hx1 hs1; have H1 := Lib.hid h1; have HX1 := Lib.hid hx1; have HS1 := Lib.hid hs1; clear h1 hx1 hs1)
  clear hk
  go_loopw [7] (fun i wr => ∃ j : Nat, j ≤ k ∧ i = .int .i64 j ∧ Blk wr w.heap.size 5 (List.replicate j c ++ Sha.zeros (k - j)) ∧ Ext w wr) (fun i _ => k - (intOf i).toNat)
  case atStart => exact ⟨0, by omega, rfl, by simpa using H1.out, HX1.out⟩
  case round =>
    obtain ⟨j, hj, rfl, hB, hX⟩ := hrel
    have hll : (List.replicate j c ++ Sha.zeros (k - j)).length = k := by simp [Sha.zeros]; omega
    by_cases hlt : j < k
    · have hcell := hB.cell j (by omega)
      have hf := hB.frozen j
      have hbl := hB.lt
      have HB := Lib.hid hB
      have HX := Lib.hid hX
      clear hB hX hll
      go_wp2
      go_roundw
      case rel =>
        refine ⟨j + 1, by omega, by go_num, ?_, Ext.setCell_new HX.out trivial (Nat.le_refl _) ⟩
        have := HB.out.set j c
        rw [set_next c k j hlt] at this
        exact this
      case measure => simp [intOf]; omega
    · obtain rfl : j = k := by omega
      rw [Nat.sub_self, show Sha.zeros 0 = [] from rfl, List.append_nil] at hB hll
      generalize List.replicate j c = l at hB hll
      have HB := Lib.hid hB
      have HX := Lib.hid hX
      have HL := Lib.hid hll
      have HS : Hid (Bs wr (.slice (some ⟨w.heap.size, 0, none⟩) j j) l) := Lib.hid (hB.whole j j hll.symm (Nat.le_refl _) (by omega))
      have HSa : Hid (Bs wr (.slice (some ⟨w.heap.size, 0, none⟩) (j / 2) j) (l.take (j / 2))) := Lib.hid (hB.bs 0 (j / 2) j (by omega) (by omega) (by omega))
      have HSb : Hid (Bs wr (.slice (some ⟨w.heap.size, j / 2, none⟩) (j - j / 2) (j - j / 2)) (l.drop (j / 2))) := Lib.hid (by
        have h := hB.bs (j / 2) (j - j / 2) (j - j / 2) (by omega) (by omega) (by omega)
        rw [List.take_of_length_le (l := l.drop (j / 2)) (by simp; omega)] at h
        exact h)
      have HJ : Hid (l.take (j / 2) ++ l.drop (j / 2) = l) := Lib.hid (List.take_append_drop _ _)
      have hn1 : w.heap.size < wr.heap.size := hB.lt
      have hlj : l.length ≤ 139 := by omega
      have T0 : True := trivial
      clear hB hX hll hlt hj H1 HX1 HS1
      go_wp2_with (first | (go_at_call 32; clear T0; go_must (refine (new_any _).mono ?_; rintro e w2 ⟨hb, kb, rfl, hH2, hx2, hg2, hk2⟩; have HO2 := Lib.hid (⟨hH2, hx2, hg2, fun g hg => nomatch hg⟩ : OurH wr hb kb (.slice none 0 0) [] w2); have T1 : True := trivial; clear hH2 hx2 hg2)) | (go_at_call 33; clear T1; go_must (refine (write_any hb kb _ _ [] (l.take (j / 2)) _ HO2.out.at_ (Rd.ext HSa.out HO2.out.ext) (by simp; omega)).mono ?_; rintro e w3 ⟨rfl, rv3, hH3, hc3, hf3⟩; rw [List.nil_append] at hH3; have HO3 := Lib.hid (HO2.out.wrote hH3 hc3 hf3); have T2 : True := trivial; clear hH3 hc3 hf3)) | (go_at_call 33; clear T2; go_must (refine (write_any hb kb _ _ _ (l.drop (j / 2)) _ HO3.out.at_ (Rd.ext HSb.out HO3.out.ext) (by simp; omega)).mono ?_; rintro e w4 ⟨rfl, rv4, hH4, hc4, hf4⟩; rw [HJ.out] at hH4; have HO4 := Lib.hid (HO3.out.wrote hH4 hc4 hf4); have T3 : True := trivial; clear hH4 hc4 hf4)) | (go_at_call 31; go_must (refine (refsum_any _ l (by have := HL.out; omega) _ (Rd.ext HS.out HO4.out.ext)).mono ?_; rintro e w5 ⟨rfl, hx5⟩; have HO5 := Lib.hid (HO4.out.grow hx5); clear hx5)) | (refine wpl_alloc_agg rfl 27 rfl _ zero27.1 ?_) | (refine wpl_store27 rfl _ _ rfl w5.heap.size (Sha.sum l) (Sha.zeros 32) rfl rfl (Sha.sum_length _) (by simp [Sha.zeros]) (heap_alloc_last w5 _) ?_; intro w6 h6 hu6; have H6 := Lib.hid h6; have HO6 := Lib.hid (HO5.out.grow (((Ext.refl w5).alloc _).upd_new hu6 (Nat.le_refl _))); have hs6 : w5.heap.size < w6.heap.size := (Array.getElem?_eq_some_iff.1 h6).1; clear h6 hu6))
      refine wp_region_m (by kernel_rfl) (by kernel_rfl) ?_; try simp only [Act.put, List.setIfInBounds_toArray, List.set_cons_succ, List.set_cons_zero]
      repeat (refine gq rfl rfl rfl rfl (fun K hK => ?_); go_big_quiet_op; refine hK _ ?_; clear hK K)
      refine gc rfl rfl rfl rfl 34 #[.pointer (some ⟨hb, 0, none⟩)] (fun _ => by go_simp) (Dig (Sha.sum l)) (fun x => hsum_any hb kb _ l _ (HO6.out.grow (ext_ext w6 x)).at_ (by have := HL.out; omega)) ?_
      simp only [Act.put, List.setIfInBounds_toArray, List.set_cons_succ, List.set_cons_zero]
      refine gx rfl rfl rfl rfl _ (fun x => exec_load27 _ rfl w5.heap.size rfl (Sha.sum l) (Sha.sum_length _) _ ((ext_heap w6 x _ hs6).trans H6.out)) ?_
      simp only [Act.put, List.setIfInBounds_toArray, List.set_cons_succ, List.set_cons_zero]
      refine ge rfl rfl rfl rfl _ (exec_eq27 _ _ _ rfl (Sha.sum l) (Sha.sum l) rfl rfl (Sha.sum_length _) (Sha.sum_length _)) ?_
      simp only [decide_true]
      simp only [Act.put, List.setIfInBounds_toArray, List.set_cons_succ, List.set_cons_zero]
      repeat (refine gq rfl rfl rfl rfl (fun K hK => ?_); go_big_quiet_op; refine hK _ ?_; clear hK K)
      refine gv rfl rfl rfl rfl 46 rfl (RssR [l]) RssR.ext (fun x => ⟨_, _, by go_simp <;> first | exact ⟨rfl, rfl⟩ | rfl, ⟨_, Rss.one _ _ l (Rd.ext HS.out (HO6.out.ext.trans (ext_ext w6 x)))⟩, (Ext.refl _).alloc _⟩) ?_
      simp only [Act.put, List.setIfInBounds_toArray, List.set_cons_succ, List.set_cons_zero]
      refine gcx rfl rfl 30 (fun xs => #[xs 46]) (Dig (Sha.sum l)) (fun xs => rfl) (fun xs w => by simp only [fillM, Act.put, List.setIfInBounds_toArray, List.set_cons_succ, List.set_cons_zero]; go_simp) (fun xs x hk => by obtain ⟨vs, hu⟩ := hk 46 (by decide) (by simp) _ rfl; have h := sum_any _ vs [l] _ hu (by have := HL.out; simp; omega); rw [show ([l]).flatten = l by simp] at h; exact h) ?_
      simp only [Act.put, List.setIfInBounds_toArray, List.set_cons_succ, List.set_cons_zero]
      refine gx rfl rfl rfl rfl _ (fun x => exec_load27 _ rfl w5.heap.size rfl (Sha.sum l) (Sha.sum_length _) _ ((ext_heap w6 x _ hs6).trans H6.out)) ?_
      simp only [Act.put, List.setIfInBounds_toArray, List.set_cons_succ, List.set_cons_zero]
      refine ge rfl rfl rfl rfl _ (exec_eq27 _ _ _ rfl (Sha.sum l) (Sha.sum l) rfl rfl (Sha.sum_length _) (Sha.sum_length _)) ?_
      simp only [decide_true]
      simp only [Act.put, List.setIfInBounds_toArray, List.set_cons_succ, List.set_cons_zero]
      repeat (refine gq rfl rfl rfl rfl (fun K hK => ?_); go_big_quiet_op; refine hK _ ?_; clear hK K)
      refine gc rfl rfl rfl rfl 29 #[] (fun _ => by go_simp) (.bool true) (fun x => known_any _) ?_
      simp only [Act.put, List.setIfInBounds_toArray, List.set_cons_succ, List.set_cons_zero]
      repeat (refine gq rfl rfl rfl rfl (fun K hK => ?_); go_big_quiet_op; refine hK _ ?_; clear hK K)
      refine gm_end_at rfl [(46, RssR [l])] rfl (fun xs x hk => ?_)
      clear hk
      simp only [fillM, Act.put, List.setIfInBounds_toArray, List.set_cons_succ, List.set_cons_zero]
      go_wp2
      go_ret
      exact ⟨rfl, HX.out.trans (HO6.out.ext.trans (ext_ext w6 x))⟩
end Go.Proofs.Ytapojpjmeadabaa

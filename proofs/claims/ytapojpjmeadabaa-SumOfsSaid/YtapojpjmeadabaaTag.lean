/- mac.Tag: HMAC. -/
import Derived.Test.YtapojpjmeadabaaMac3
import Derived.Test.YtapojpjmeadabaaOne
namespace Go.Proofs.Ytapojpjmeadabaa
open Go.RowKit
set_option linter.unusedVariables false
set_option linter.unusedSimpArgs false
attribute [local go_sem] lt_ext cell?_ext frozen?_ext shape?_ext

def tagK (kl m : List UInt8) : List UInt8 := Sha.sum (Sha.pad kl 0x5c ++ Sha.sum (Sha.pad kl 0x36 ++ m))
theorem sum_one (u : Value) (l : List UInt8) (w : World) (g : Nat) (hg : g = w.heap.size) (h : Bs w u l) (hle : l.length ≤ 2147483648) :
    Calls Try.prog 30 #[.slice (some ⟨g, 0, none⟩) 1 1] (w.alloc (.cells #[u] 23)) fun e w' => e = .returned (Dig (Sha.sum l)) ∧ Ext w w' := by
  subst hg
  have h1 := sum_any _ [u] [l] _ (Rss.one w u l h) (by simpa using hle)
  rw [show [l].flatten = l by simp] at h1
  exact h1.mono fun e w' ⟨he, hx⟩ => ⟨he, ((Ext.refl w).alloc _).trans hx⟩
/-- What the walk knows behind the key: its variable, the result's. -/
structure K0 (w : World) (kv : Value) (kl : List UInt8) (W0 : World) : Prop where
  ext : Ext w W0
  box : W0.cell? ⟨w.heap.size, 0, none⟩ = some kv
  lt : w.heap.size < W0.heap.size
  bs : Bs W0 kv kl
  res : Blk W0 (w.heap.size + 1) 27 (Sha.zeros 32)
set_option maxRecDepth 100000 in
set_option maxHeartbeats 2000000 in
theorem tag_any (kv lv : Value) (key : List UInt8) (vs : List Value) (ls : List (List UInt8)) (w : World) (hK : Bs w kv key) (hL : Rss w lv vs ls) (hk : key.length ≤ 2147483648) (hf : ls.flatten.length ≤ 1073741824) :
    Calls Try.prog 47 #[kv, lv] w fun e w' => e = .returned (Dig (Sha.tag key ls.flatten)) ∧ Ext w w' := by
  obtain ⟨A, cap, rfl, hcap, hcm, _, _⟩ := hL.rd.is
  obtain ⟨A', cap', rfl, hcap', hcm', _, _⟩ := hK.is
  unfold maxLen at hcm hcm'
  have HL := Lib.hid hL
  have HK := Lib.hid hK
  clear hL hK
  obtain ⟨fl, hfl⟩ : ∃ fl, ls.flatten = fl := ⟨_, rfl⟩
  rw [hfl] at hf ⊢
  have HFL := Lib.hid hfl
  clear hfl
  obtain ⟨kl, hkl⟩ : ∃ kl, Sha.keyOf key = kl := ⟨_, rfl⟩
  have HKL : Hid (kl.length ≤ 64) := Lib.hid (by rw [← hkl]; unfold Sha.keyOf; split <;> first | (rw [Sha.sum_length]; decide) | omega)
  obtain ⟨p36, hp36⟩ : ∃ p, Sha.pad kl 0x36 = p := ⟨_, rfl⟩
  obtain ⟨p5c, hp5c⟩ : ∃ p, Sha.pad kl 0x5c = p := ⟨_, rfl⟩
  have h36 : p36.length ≤ 64 := by rw [← hp36, pad_length _ _ HKL.out]; exact Nat.le_refl _
  have h5c : p5c.length ≤ 64 := by rw [← hp5c, pad_length _ _ HKL.out]; exact Nat.le_refl _
  have HP36 := Lib.hid hp36
  have HP5c := Lib.hid hp5c
  have HT : Hid (∀ m, Sha.sum (Sha.pad kl 0x5c ++ Sha.sum (Sha.pad kl 0x36 ++ m)) = Sha.tag key m) := Lib.hid (fun m => by unfold Sha.tag; rw [hkl])
  have HKL2 := Lib.hid hkl
  clear hp36 hp5c hkl
  by_cases h64 : 64 < key.length
  · have hB0 : (((w.alloc (.cells #[.slice A' key.length cap'] 23)).alloc (.cells (row8 (Sha.zeros 32)) 27)).heap[w.heap.size]? = some (.cells #[.slice A' key.length cap'] 23 (0, 0))) ∧ Blk ((w.alloc (.cells #[.slice A' key.length cap'] 23)).alloc (.cells (row8 (Sha.zeros 32)) 27)) (w.heap.size + 1) 27 (Sha.zeros 32) ∧ Ext w ((w.alloc (.cells #[.slice A' key.length cap'] 23)).alloc (.cells (row8 (Sha.zeros 32)) 27)) := by
      refine ⟨(((Ext.refl (w.alloc (.cells #[.slice A' key.length cap'] 23))).alloc (.cells (row8 (Sha.zeros 32)) 27)).block (k := w.heap.size) (by simp)).trans (heap_alloc_last w _), ?_, ((Ext.refl w).alloc _).alloc _⟩
      have := heap_alloc_last (w.alloc (.cells #[.slice A' key.length cap'] 23)) (.cells (row8 (Sha.zeros 32)) 27)
      rw [World.size_alloc] at this
      exact this
    have HB0 := Lib.hid hB0
    have hkk : Sha.sum key = kl := by have := HKL2.out; unfold Sha.keyOf at this; rw [if_pos h64] at this; exact this
    have HKK := Lib.hid hkk
    have hkl32 : kl.length = 32 := by rw [← hkk]; exact Sha.sum_length _
    have HL32 := Lib.hid hkl32
    clear hB0 hkk hkl32
    go_enter Try.func47, Try.ntmps47
    go_wp2_with (first | (go_at_call 30; go_must (refine (sum_one _ key _ _ (by simp) (Rd.ext HK.out (((Ext.refl w).alloc _).alloc _)) (by omega)).mono ?_; rintro e w1 ⟨rfl, hx1⟩; rw [HKK.out]; have HB1 : Hid (w1.heap[w.heap.size]? = some (.cells #[.slice A' key.length cap'] 23 (0, 0)) ∧ Blk w1 (w.heap.size + 1) 27 (Sha.zeros 32) ∧ Ext w w1) := Lib.hid ⟨(hx1.block (Array.getElem?_eq_some_iff.1 HB0.out.1).1).trans HB0.out.1, Blk.ext HB0.out.2.1 hx1, HB0.out.2.2.trans hx1⟩; clear hx1 HB0)) | (refine wpl_alloc_agg rfl 27 rfl _ zero27.1 ?_) | (refine wpl_store27 rfl _ _ rfl w1.heap.size kl (Sha.zeros 32) rfl rfl HL32.out (by simp [Sha.zeros]) (heap_alloc_last w1 _) ?_; intro w2 h2 hu2; have hx2 : Ext w1 w2 := ((Ext.refl w1).alloc _).upd_new hu2 (Nat.le_refl _); have hbx : w2.heap[w.heap.size]? = some (.cells #[.slice A' key.length cap'] 23 (0, 0)) := (hx2.block (Array.getElem?_eq_some_iff.1 HB1.out.1).1).trans HB1.out.1; have hc2 : w2.cell? ⟨w.heap.size, 0, none⟩ = some (.slice A' key.length cap') := (by rw [cell_of_row _ _ _ _ _ _ hbx]; rfl); have hf2 := frozen_of_row w2 w.heap.size 0 _ _ hbx; have hs2 : w.heap.size < w2.heap.size := (Array.getElem?_eq_some_iff.1 hbx).1; have hs1 : w.heap.size + 1 < w1.heap.size := HB1.out.2.1.lt; have HBX := Lib.hid hbx; have H2 : Hid (Blk w2 w1.heap.size 27 kl) := Lib.hid h2; have HX2 := Lib.hid (HB1.out.2.2.trans hx2); have HR2 := Lib.hid (Blk.ext HB1.out.2.1 hx2); clear h2 hu2 hx2 hbx) | (go_at_call 32; go_must (clear hc2 hf2; have hF : K0 w (.slice (some ⟨w1.heap.size, 0, none⟩) 32 32) kl (w2.setCell ⟨w.heap.size, 0, none⟩ (.slice (some ⟨w1.heap.size, 0, none⟩) 32 32)) := (by have e1 := heap_setCell_same _ _ 0 _ _ (.slice (some ⟨w1.heap.size, 0, none⟩) 32 32) HBX.out; exact ⟨Ext.setCell_new HX2.out trivial (Nat.le_refl _), (by rw [cell_of_row _ _ _ _ _ _ e1]; rfl), (Array.getElem?_eq_some_iff.1 e1).1, Blk.whole ((Below.heap_setCell w2 ⟨w.heap.size, 0, none⟩ _ w1.heap.size (by simp; omega)).trans H2.out) 32 32 HL32.out.symm (Nat.le_refl _) (by decide), (Below.heap_setCell w2 ⟨w.heap.size, 0, none⟩ _ (w.heap.size + 1) (by simp)).trans HR2.out⟩); generalize w2.setCell ⟨w.heap.size, 0, none⟩ (.slice (some ⟨w1.heap.size, 0, none⟩) 32 32) = W0 at hF ⊢; have HF := Lib.hid hF; clear hF hs2 hs1; refine (new_any _).mono ?_; rintro e w3 ⟨hb, kb, rfl, hH3, hx3, hg3, hk3⟩; have HO3 := Lib.hid (⟨hH3, hx3, hg3, fun g hg => nomatch hg⟩ : OurH W0 hb kb (.slice none 0 0) [] w3); clear hH3 hx3 hg3 hk3)) | (go_at_call 92; go_must (refine (padc_any w.heap.size _ kl 0x36 HKL.out _ ((HO3.out.ext.cell _ 0 HF.out.lt).trans HF.out.box) (Rd.ext HF.out.bs HO3.out.ext)).mono ?_; rintro e w4 ⟨v4, rfl, hn4⟩; rw [HP36.out] at hn4; have HN4 := Lib.hid hn4.bs; have HO4 := Lib.hid (HO3.out.grow hn4.ext); clear hn4)) | (go_at_call 33; go_must (refine (write_any hb kb _ _ [] p36 _ HO4.out.at_ HN4.out (by simp; omega)).mono ?_; rintro e w5 ⟨rfl, rv5, hH5, hc5, hf5⟩; rw [List.nil_append] at hH5; have HO5 := Lib.hid (HO4.out.wrote hH5 hc5 hf5); clear hH5 hc5 hf5)))
    go_loopw [26, 9] (fun i u wr => ∃ (k : Nat) (rv : Value), k ≤ ls.length ∧ i = .int .i64 k ∧ OurH W0 hb kb rv (p36 ++ (ls.take k).flatten) wr) (fun i _ _ => ls.length - (intOf i).toNat)
    case atStart => exact ⟨0, rv5, by omega, rfl, by simpa using HO5.out⟩
    case round =>
      obtain ⟨k, rv, hk1, rfl, hour⟩ := hrel
      have hxw : Ext w wr := HF.out.ext.trans hour.ext
      have HO := Lib.hid hour
      have HX := Lib.hid hxw
      have hf1 := flat_take_le ls (k + 1)
      rw [HFL.out] at hf1
      by_cases hlt : k < ls.length
      · have hfs := flat_take_succ ls k hlt
        rw [hfs, List.length_append] at hf1
        have HFS := Lib.hid hfs
        obtain ⟨b, o, cap', hA, _, _, hbl, hcell⟩ := HL.out.rd.pos (by omega)
        injection hA with hA1 hA2 hA3
        subst hA1
        subst hA3
        obtain ⟨u, hu, hub⟩ := HL.out.each k hlt
        have hc := (hxw.cell b (o + k) hbl).trans (hcell k u hu)
        have HU := Lib.hid (Rd.ext hub hxw)
        clear hour hxw hcell hub hu hfs HO5
        go_wp2_with (go_at_call 33; go_must (refine (write_any hb kb rv _ _ (ls.getD k []) _ HO.out.at_ HU.out (by rw [List.length_append]; omega)).mono ?_; rintro e w6 ⟨rfl, rv6, hH6, hc6, hf6⟩; have HO6 := Lib.hid (HO.out.wrote hH6 hc6 hf6); clear hH6 hc6 hf6))
        go_roundw
        case rel => exact ⟨k + 1, rv6, by omega, by go_num, by rw [HFS.out, ← List.append_assoc]; exact HO6.out⟩
        case measure => simp [intOf]; omega
      · have hkl : k = ls.length := by omega
        have e : (ls.take k).flatten = fl := by rw [hkl, List.take_length, HFL.out]
        rw [e] at HO
        clear hour hxw e hkl HO5 hf1
        have hDl : (Sha.sum (p36 ++ fl)).length = 32 := Sha.sum_length _
        have hm36 : (p36 ++ fl).length ≤ 1073741888 := by simp; omega
        have HTG : Hid (Sha.sum (p5c ++ Sha.sum (p36 ++ fl)) = Sha.tag key fl) := Lib.hid (by rw [← HP36.out, ← HP5c.out]; exact HT.out fl)
        generalize p36 ++ fl = m36 at *
        obtain ⟨D, hD⟩ : ∃ D, Sha.sum m36 = D := ⟨_, rfl⟩
        rw [hD] at hDl HTG
        have HD := Lib.hid hD
        have HDl := Lib.hid hDl
        have hDl2 : D.length ≤ 32 := Nat.le_of_eq hDl
        clear hD hDl
        go_wp2_with (first | (go_at_call 34; go_must (refine (hsum_any hb kb rv _ _ HO.out.at_ (by omega)).mono ?_; rintro e w6 ⟨rfl, hx6⟩; rw [HD.out]; have HO6 := Lib.hid (HO.out.grow hx6); clear hx6)) | (refine wpl_alloc_agg rfl 27 rfl _ zero27.1 ?_) | (refine wpl_store27 rfl _ _ rfl w6.heap.size D (Sha.zeros 32) rfl rfl HDl.out (by simp [Sha.zeros]) (heap_alloc_last w6 _) ?_; intro w7 h7 hu7; have H7 := Lib.hid h7; have HO7 := Lib.hid (HO6.out.grow (((Ext.refl w6).alloc _).upd_new hu7 (Nat.le_refl _))); have hs7 : w6.heap.size < w7.heap.size := (Array.getElem?_eq_some_iff.1 h7).1; clear h7 hu7))
        refine wp_region_mt 5 (by kernel_rfl) (by kernel_rfl) ?_
        try simp only [Act.put, List.setIfInBounds_toArray, List.set_cons_succ, List.set_cons_zero]
        simp only [List.take_succ_cons, List.take_zero]
        repeat (refine gq rfl rfl rfl rfl (fun K hK => ?_); go_big_quiet_op; refine hK _ ?_; clear hK K)
        refine gcp rfl rfl rfl rfl 92 #[.int .u8 92, .pointer (some ⟨w.heap.size, 0, none⟩)] (fun _ => by go_simp) 37 rfl (BsR p5c) BsR.ext (fun x => (padc_any w.heap.size _ kl 0x5c HKL.out _ (((HO7.out.ext.trans (ext_ext w7 x)).cell _ 0 HF.out.lt).trans HF.out.box) (Rd.ext HF.out.bs (HO7.out.ext.trans (ext_ext w7 x)))).mono (fun e w' ⟨v, he, hn⟩ => ⟨v, he, (by rw [HP5c.out] at hn; exact hn.bs), hn.ext⟩)) ?_
        simp only [Act.put, List.setIfInBounds_toArray, List.set_cons_succ, List.set_cons_zero]
        repeat (refine gq rfl rfl rfl rfl (fun K hK => ?_); go_big_quiet_op; refine hK _ ?_; clear hK K)
        refine gvx rfl rfl 39 rfl (RssR [p5c, D]) RssR.ext (fun xs => rfl) (fun xs x hk => by have h37 : Bs (w7.ext x) (xs 37) p5c := hk 37 (by decide) (by simp) _ rfl; obtain ⟨A3, c3, e3, _⟩ := h37.is; exact ⟨.slice (some ⟨(w7.ext x).heap.size, 0, none⟩) 2 2, (w7.ext x).alloc (.cells #[xs 37, .slice (some ⟨w6.heap.size, 0, none⟩) 32 32] 23), by simp only [fillM, Act.put, List.setIfInBounds_toArray, List.set_cons_succ, List.set_cons_zero]; rw [e3]; go_simp, ⟨_, Rss.two _ (xs 37) _ p5c D h37 (Blk.whole (Blk.ext H7.out (ext_ext w7 x)) 32 32 HDl.out.symm (Nat.le_refl _) (by decide))⟩, (Ext.refl _).alloc _⟩) ?_
        simp only [Act.put, List.setIfInBounds_toArray, List.set_cons_succ, List.set_cons_zero]
        refine gcx rfl rfl 30 (fun xs => #[xs 39]) (Dig (Sha.tag key fl)) (fun xs => rfl) (fun xs w => by simp only [fillM, Act.put, List.setIfInBounds_toArray, List.set_cons_succ, List.set_cons_zero]; go_simp) (fun xs x hk => by obtain ⟨vs, hu⟩ := hk 39 (by decide) (by simp) _ rfl; have h := sum_any _ vs [p5c, D] _ hu (by simp; omega); rw [show ([p5c, D]).flatten = p5c ++ D by simp, HTG.out] at h; exact h) ?_
        simp only [Act.put, List.setIfInBounds_toArray, List.set_cons_succ, List.set_cons_zero]
        refine gm_end_at rfl [(39, RssR [p5c, D]), (37, BsR p5c)] rfl (fun xs x hk => ?_)
        clear hk
        simp only [fillM, Act.put, List.setIfInBounds_toArray, List.set_cons_succ, List.set_cons_zero]
        simp only [List.drop_succ_cons, List.drop_zero]
        refine wpl_store27 rfl _ _ rfl (w.heap.size + 1) (Sha.tag key fl) (Sha.zeros 32) rfl rfl (Sha.tag_length _ _) (by simp [Sha.zeros]) (Blk.ext HF.out.res (HO7.out.ext.trans (ext_ext w7 x))) ?_
        intro w8 h8 hu8
        have H8 := Lib.hid h8
        have HX8 := Lib.hid ((HF.out.ext.trans (HO7.out.ext.trans (ext_ext w7 x))).upd_new hu8 (Nat.le_succ _))
        clear h8 hu8
        go_wp2
        exact ret27 rfl (w.heap.size + 1) _ (Sha.tag_length _ _) rfl H8.out rfl ⟨rfl, HX8.out⟩
  · have hkk : key = kl := by have := HKL2.out; unfold Sha.keyOf at this; rw [if_neg h64] at this; exact this
    have hF0 : K0 w (.slice A' key.length cap') kl ((w.alloc (.cells #[.slice A' key.length cap'] 23)).alloc (.cells (row8 (Sha.zeros 32)) 27)) := by
      have hb := (((Ext.refl (w.alloc (.cells #[.slice A' key.length cap'] 23))).alloc (.cells (row8 (Sha.zeros 32)) 27)).block (k := w.heap.size) (by simp)).trans (heap_alloc_last w _)
      refine ⟨((Ext.refl w).alloc _).alloc _, by rw [cell_of_row _ _ _ _ _ _ hb]; rfl, by simp; omega, ?_, ?_⟩
      · rw [← hkk]; exact Rd.ext HK.out (((Ext.refl w).alloc _).alloc _)
      · have := heap_alloc_last (w.alloc (.cells #[.slice A' key.length cap'] 23)) (.cells (row8 (Sha.zeros 32)) 27)
        simpa [Blk] using this
    have HF0 := Lib.hid hF0
    clear hkk hF0
    go_enter Try.func47, Try.ntmps47
    go_wp2_with (first | (refine wpl_alloc_agg rfl 27 rfl _ zero27.1 ?_) | (go_at_call 32; go_must (have hF := HF0.out; clear HF0; generalize (w.alloc (.cells #[.slice A' key.length cap'] 23)).alloc (.cells (row8 (Sha.zeros 32)) 27) = W0 at hF ⊢; have HF := Lib.hid hF; clear hF; refine (new_any _).mono ?_; rintro e w3 ⟨hb, kb, rfl, hH3, hx3, hg3, hk3⟩; have HO3 := Lib.hid (⟨hH3, hx3, hg3, fun g hg => nomatch hg⟩ : OurH W0 hb kb (.slice none 0 0) [] w3); clear hH3 hx3 hg3 hk3)) | (go_at_call 92; go_must (refine (padc_any w.heap.size _ kl 0x36 HKL.out _ ((HO3.out.ext.cell _ 0 HF.out.lt).trans HF.out.box) (Rd.ext HF.out.bs HO3.out.ext)).mono ?_; rintro e w4 ⟨v4, rfl, hn4⟩; rw [HP36.out] at hn4; have HN4 := Lib.hid hn4.bs; have HO4 := Lib.hid (HO3.out.grow hn4.ext); clear hn4)) | (go_at_call 33; go_must (refine (write_any hb kb _ _ [] p36 _ HO4.out.at_ HN4.out (by simp; omega)).mono ?_; rintro e w5 ⟨rfl, rv5, hH5, hc5, hf5⟩; rw [List.nil_append] at hH5; have HO5 := Lib.hid (HO4.out.wrote hH5 hc5 hf5); clear hH5 hc5 hf5)))
    go_loopw [26, 9] (fun i u wr => ∃ (k : Nat) (rv : Value), k ≤ ls.length ∧ i = .int .i64 k ∧ OurH W0 hb kb rv (p36 ++ (ls.take k).flatten) wr) (fun i _ _ => ls.length - (intOf i).toNat)
    case atStart => exact ⟨0, rv5, by omega, rfl, by simpa using HO5.out⟩
    case round =>
      obtain ⟨k, rv, hk1, rfl, hour⟩ := hrel
      have hxw : Ext w wr := HF.out.ext.trans hour.ext
      have HO := Lib.hid hour
      have HX := Lib.hid hxw
      have hf1 := flat_take_le ls (k + 1)
      rw [HFL.out] at hf1
      by_cases hlt : k < ls.length
      · have hfs := flat_take_succ ls k hlt
        rw [hfs, List.length_append] at hf1
        have HFS := Lib.hid hfs
        obtain ⟨b, o, cap', hA, _, _, hbl, hcell⟩ := HL.out.rd.pos (by omega)
        injection hA with hA1 hA2 hA3
        subst hA1
        subst hA3
        obtain ⟨u, hu, hub⟩ := HL.out.each k hlt
        have hc := (hxw.cell b (o + k) hbl).trans (hcell k u hu)
        have HU := Lib.hid (Rd.ext hub hxw)
        clear hour hxw hcell hub hu hfs HO5
        go_wp2_with (go_at_call 33; go_must (refine (write_any hb kb rv _ _ (ls.getD k []) _ HO.out.at_ HU.out (by rw [List.length_append]; omega)).mono ?_; rintro e w6 ⟨rfl, rv6, hH6, hc6, hf6⟩; have HO6 := Lib.hid (HO.out.wrote hH6 hc6 hf6); clear hH6 hc6 hf6))
        go_roundw
        case rel => exact ⟨k + 1, rv6, by omega, by go_num, by rw [HFS.out, ← List.append_assoc]; exact HO6.out⟩
        case measure => simp [intOf]; omega
      · have hkl : k = ls.length := by omega
        have e : (ls.take k).flatten = fl := by rw [hkl, List.take_length, HFL.out]
        rw [e] at HO
        clear hour hxw e hkl HO5 hf1
        have hDl : (Sha.sum (p36 ++ fl)).length = 32 := Sha.sum_length _
        have hm36 : (p36 ++ fl).length ≤ 1073741888 := by simp; omega
        have HTG : Hid (Sha.sum (p5c ++ Sha.sum (p36 ++ fl)) = Sha.tag key fl) := Lib.hid (by rw [← HP36.out, ← HP5c.out]; exact HT.out fl)
        generalize p36 ++ fl = m36 at *
        obtain ⟨D, hD⟩ : ∃ D, Sha.sum m36 = D := ⟨_, rfl⟩
        rw [hD] at hDl HTG
        have HD := Lib.hid hD
        have HDl := Lib.hid hDl
        have hDl2 : D.length ≤ 32 := Nat.le_of_eq hDl
        clear hD hDl
        go_wp2_with (first | (go_at_call 34; go_must (refine (hsum_any hb kb rv _ _ HO.out.at_ (by omega)).mono ?_; rintro e w6 ⟨rfl, hx6⟩; rw [HD.out]; have HO6 := Lib.hid (HO.out.grow hx6); clear hx6)) | (refine wpl_alloc_agg rfl 27 rfl _ zero27.1 ?_) | (refine wpl_store27 rfl _ _ rfl w6.heap.size D (Sha.zeros 32) rfl rfl HDl.out (by simp [Sha.zeros]) (heap_alloc_last w6 _) ?_; intro w7 h7 hu7; have H7 := Lib.hid h7; have HO7 := Lib.hid (HO6.out.grow (((Ext.refl w6).alloc _).upd_new hu7 (Nat.le_refl _))); have hs7 : w6.heap.size < w7.heap.size := (Array.getElem?_eq_some_iff.1 h7).1; clear h7 hu7))
        refine wp_region_mt 5 (by kernel_rfl) (by kernel_rfl) ?_
        try simp only [Act.put, List.setIfInBounds_toArray, List.set_cons_succ, List.set_cons_zero]
        simp only [List.take_succ_cons, List.take_zero]
        repeat (refine gq rfl rfl rfl rfl (fun K hK => ?_); go_big_quiet_op; refine hK _ ?_; clear hK K)
        refine gcp rfl rfl rfl rfl 92 #[.int .u8 92, .pointer (some ⟨w.heap.size, 0, none⟩)] (fun _ => by go_simp) 37 rfl (BsR p5c) BsR.ext (fun x => (padc_any w.heap.size _ kl 0x5c HKL.out _ (((HO7.out.ext.trans (ext_ext w7 x)).cell _ 0 HF.out.lt).trans HF.out.box) (Rd.ext HF.out.bs (HO7.out.ext.trans (ext_ext w7 x)))).mono (fun e w' ⟨v, he, hn⟩ => ⟨v, he, (by rw [HP5c.out] at hn; exact hn.bs), hn.ext⟩)) ?_
        simp only [Act.put, List.setIfInBounds_toArray, List.set_cons_succ, List.set_cons_zero]
        repeat (refine gq rfl rfl rfl rfl (fun K hK => ?_); go_big_quiet_op; refine hK _ ?_; clear hK K)
        refine gvx rfl rfl 39 rfl (RssR [p5c, D]) RssR.ext (fun xs => rfl) (fun xs x hk => by have h37 : Bs (w7.ext x) (xs 37) p5c := hk 37 (by decide) (by simp) _ rfl; obtain ⟨A3, c3, e3, _⟩ := h37.is; exact ⟨.slice (some ⟨(w7.ext x).heap.size, 0, none⟩) 2 2, (w7.ext x).alloc (.cells #[xs 37, .slice (some ⟨w6.heap.size, 0, none⟩) 32 32] 23), by simp only [fillM, Act.put, List.setIfInBounds_toArray, List.set_cons_succ, List.set_cons_zero]; rw [e3]; go_simp, ⟨_, Rss.two _ (xs 37) _ p5c D h37 (Blk.whole (Blk.ext H7.out (ext_ext w7 x)) 32 32 HDl.out.symm (Nat.le_refl _) (by decide))⟩, (Ext.refl _).alloc _⟩) ?_
        simp only [Act.put, List.setIfInBounds_toArray, List.set_cons_succ, List.set_cons_zero]
        refine gcx rfl rfl 30 (fun xs => #[xs 39]) (Dig (Sha.tag key fl)) (fun xs => rfl) (fun xs w => by simp only [fillM, Act.put, List.setIfInBounds_toArray, List.set_cons_succ, List.set_cons_zero]; go_simp) (fun xs x hk => by obtain ⟨vs, hu⟩ := hk 39 (by decide) (by simp) _ rfl; have h := sum_any _ vs [p5c, D] _ hu (by simp; omega); rw [show ([p5c, D]).flatten = p5c ++ D by simp, HTG.out] at h; exact h) ?_
        simp only [Act.put, List.setIfInBounds_toArray, List.set_cons_succ, List.set_cons_zero]
        refine gm_end_at rfl [(39, RssR [p5c, D]), (37, BsR p5c)] rfl (fun xs x hk => ?_)
        clear hk
        simp only [fillM, Act.put, List.setIfInBounds_toArray, List.set_cons_succ, List.set_cons_zero]
        simp only [List.drop_succ_cons, List.drop_zero]
        refine wpl_store27 rfl _ _ rfl (w.heap.size + 1) (Sha.tag key fl) (Sha.zeros 32) rfl rfl (Sha.tag_length _ _) (by simp [Sha.zeros]) (Blk.ext HF.out.res (HO7.out.ext.trans (ext_ext w7 x))) ?_
        intro w8 h8 hu8
        have H8 := Lib.hid h8
        have HX8 := Lib.hid ((HF.out.ext.trans (HO7.out.ext.trans (ext_ext w7 x))).upd_new hu8 (Nat.le_succ _))
        clear h8 hu8
        go_wp2
        exact ret27 rfl (w.heap.size + 1) _ (Sha.tag_length _ _) rfl H8.out rfl ⟨rfl, HX8.out⟩
end Go.Proofs.Ytapojpjmeadabaa

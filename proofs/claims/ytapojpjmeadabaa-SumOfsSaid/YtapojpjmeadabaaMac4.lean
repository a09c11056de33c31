/- mac.Check; sacristanref03.Tag. -/
import Derived.Test.YtapojpjmeadabaaTag
import Derived.Test.YtapojpjmeadabaaRefh
namespace Go.Proofs.Ytapojpjmeadabaa
open Go.RowKit
set_option linter.unusedVariables false
set_option linter.unusedSimpArgs false
attribute [local go_sem] lt_ext cell?_ext frozen?_ext shape?_ext

theorem tag_fl (m : List UInt8) (kv lv : Value) (key : List UInt8) (vs : List Value) (ls : List (List UInt8)) (w : World) (hK : Bs w kv key) (hL : Rss w lv vs ls) (hk : key.length ≤ 2147483648) (hm : Hid (ls.flatten = m)) (hf : m.length ≤ 1073741824) :
    Calls Try.prog 47 #[kv, lv] w fun e w' => e = .returned (Dig (Sha.tag key m)) ∧ Ext w w' := by
  have h := hm.out
  subst h
  exact tag_any kv lv key vs ls w hK hL hk hf
set_option maxRecDepth 100000 in
set_option maxHeartbeats 1000000 in
theorem check_any (m : List UInt8) (kv tv lv : Value) (key tag : List UInt8) (vs : List Value) (ls : List (List UInt8)) (w : World) (hK : Bs w kv key) (hT : Bs w tv tag) (hL : Rss w lv vs ls) (hk : key.length ≤ 2147483648) (hm : Hid (ls.flatten = m)) (hf : m.length ≤ 1073741824) :
    Calls Try.prog 48 #[kv, tv, lv] w fun e w' => e = .returned (.bool (decide (Sha.tag key m = tag))) ∧ Ext w w' := by
  have HK := Lib.hid hK
  have HT := Lib.hid hT
  have HL := Lib.hid hL
  have HD : Hid ((Sha.tag key m).length = 32) := Lib.hid (Sha.tag_length _ _)
  have HF := Lib.hid hf
  clear hK hT hL hf
  generalize hD : Sha.tag key m = D at *
  have HDD := Lib.hid hD
  clear hD
  go_enter Try.func48, Try.ntmps48
  go_wp2_with (first | (go_at_call 47; go_must (refine (tag_fl m _ _ key vs ls _ HK.out HL.out hk hm HF.out).mono ?_; rintro e w1 ⟨rfl, hx1⟩; rw [HDD.out]; have HX1 := Lib.hid hx1; clear hx1)) | (refine wpl_alloc_agg rfl 27 rfl _ zero27.1 ?_) | (refine wpl_store27 rfl _ _ rfl w1.heap.size D (Sha.zeros 32) rfl rfl HD.out (by simp [Sha.zeros]) (heap_alloc_last w1 _) ?_; intro w2 h2 hu2; have H2 : Hid (Blk w2 w1.heap.size 27 D) := Lib.hid h2; have hs2 : w1.heap.size < w2.heap.size := H2.out.lt; have HX2 := Lib.hid (HX1.out.trans (((Ext.refl w1).alloc _).upd_new hu2 (Nat.le_refl _))); clear h2 hu2) | (go_at_call 94; go_must (refine (equal_any _ _ D tag _ (Blk.whole H2.out 32 32 HD.out.symm (Nat.le_refl _) (by decide)) (Rd.ext HT.out HX2.out)).mono ?_; rintro e w3 ⟨rfl, hx3⟩; have HX3 := Lib.hid (HX2.out.trans hx3); clear hx3)))
  go_ret
  exact ⟨rfl, HX3.out⟩
set_option maxRecDepth 100000 in
set_option maxHeartbeats 1000000 in
theorem rtag_any (kv mv : Value) (key m : List UInt8) (w : World) (hK : Bs w kv key) (hM : Bs w mv m) (hk : key.length ≤ 2147483648) (hf : m.length ≤ 1073741824) :
    Calls Try.prog 46 #[kv, mv] w fun e w' => e = .returned (Dig (Sha.tag key m)) ∧ Ext w w' := by
  obtain ⟨A', cap', rfl, hcap', hcm', _, _⟩ := hK.is
  unfold maxLen at hcm'
  have HK := Lib.hid hK
  have HM := Lib.hid hM
  clear hK hM
  obtain ⟨kl, hkl⟩ : ∃ kl, Sha.keyOf key = kl := ⟨_, rfl⟩
  have HKL : Hid (kl.length ≤ 64) := Lib.hid (by rw [← hkl]; unfold Sha.keyOf; split <;> first | (rw [Sha.sum_length]; decide) | omega)
  obtain ⟨p36, hp36⟩ : ∃ p, Sha.pad kl 0x36 = p := ⟨_, rfl⟩
  obtain ⟨p5c, hp5c⟩ : ∃ p, Sha.pad kl 0x5c = p := ⟨_, rfl⟩
  have h36 : p36.length ≤ 64 := by rw [← hp36, pad_length _ _ HKL.out]; exact Nat.le_refl _
  have h5c : p5c.length ≤ 64 := by rw [← hp5c, pad_length _ _ HKL.out]; exact Nat.le_refl _
  have HP36 := Lib.hid hp36
  have HP5c := Lib.hid hp5c
  obtain ⟨D, hD⟩ : ∃ D, Sha.sum (p36 ++ m) = D := ⟨_, rfl⟩
  have HDl : Hid (D.length = 32) := Lib.hid (by rw [← hD]; exact Sha.sum_length _)
  have hDl : D.length ≤ 32 := Nat.le_of_eq HDl.out
  obtain ⟨T, hT⟩ : ∃ T, Sha.tag key m = T := ⟨_, rfl⟩
  have HTT : Hid (Sha.sum (p5c ++ D) = T) := Lib.hid (by rw [← hT, ← hD, ← hp5c, ← hp36]; unfold Sha.tag; rw [hkl])
  have HTl : Hid (T.length = 32) := Lib.hid (by rw [← hT]; exact Sha.tag_length _ _)
  rw [hT]
  have HD := Lib.hid hD
  have HKL2 := Lib.hid hkl
  clear hp36 hp5c hkl hD hT
  by_cases h64 : 64 < key.length
  · have hkk : Sha.sum key = kl := by have := HKL2.out; unfold Sha.keyOf at this; rw [if_pos h64] at this; exact this
    have HKK := Lib.hid hkk
    have hkl32 : kl.length = 32 := by rw [← hkk]; exact Sha.sum_length _
    have HL32 := Lib.hid hkl32
    clear hkk hkl32
    have hR00 : Blk (w.alloc (.cells (row8 (Sha.zeros 32)) 27)) w.heap.size 27 (Sha.zeros 32) := heap_alloc_last w _
    have hw00 : Ext w (w.alloc (.cells (row8 (Sha.zeros 32)) 27)) := (Ext.refl w).alloc _
    have HR00 := Lib.hid hR00
    have HW00 := Lib.hid hw00
    have TA : True := trivial
    clear hR00 hw00
    go_enter Try.func46, Try.ntmps46
    go_wp2_with (first | (refine wpl_alloc_agg rfl 27 rfl _ zero27.1 ?_) | (go_at_call 31; clear TA; go_must (refine (refsum_any _ key (by omega) _ (Rd.ext HK.out HW00.out)).mono ?_; rintro e wa ⟨rfl, hxa⟩; rw [HKK.out]; have HWa := Lib.hid (HW00.out.trans hxa); have HRa := Lib.hid (Blk.ext HR00.out hxa); have TB : True := trivial; clear hxa)) | (go_at_call 50; clear TB; go_must (refine (slice_any kl HL32.out _).mono ?_; rintro e w0 ⟨vb, rfl, hnb⟩; have HW0 := Lib.hid (HWa.out.trans hnb.ext); have HR0 := Lib.hid (Blk.ext HRa.out hnb.ext); have HB0 := Lib.hid hnb.bs; have T0 : True := trivial; clear hnb)) | (go_at_call 91; clear T0; go_must (refine (rpad_any _ kl 0x36 HKL.out _ HB0.out).mono ?_; rintro e w1 ⟨v1, rfl, hn1⟩; rw [HP36.out] at hn1; have HN1 := Lib.hid hn1; have T1 : True := trivial; clear hn1)) | (at_builtin; clear T1; go_must (refine wpList_append_bs rfl _ _ rfl _ rfl HN1.out.own _ rfl (Rd.ext HM.out (HW0.out.trans HN1.out.ext)) (by omega) ?_; intro v2 w2 ho2 hg2 hf2; have HN2 := Lib.hid (HN1.out.app ho2 hg2 hf2); have T2 : True := trivial; clear ho2 hg2 hf2)) | (go_at_call 91; clear T2; go_must (refine (rpad_any _ kl 0x5c HKL.out _ (Rd.ext HB0.out HN2.out.ext)).mono ?_; rintro e w3 ⟨v3, rfl, hn3⟩; rw [HP5c.out] at hn3; have HN3 := Lib.hid hn3; have T3 : True := trivial; clear hn3)) | (go_at_call 31; clear T3; go_must (refine (refsum_any _ (p36 ++ m) (by rw [List.length_append]; omega) _ (Rd.ext HN2.out.bs HN3.out.ext)).mono ?_; rintro e w4 ⟨rfl, hx4⟩; rw [HD.out]; have HN4 := Lib.hid (HN3.out.grow hx4); have T4 : True := trivial; clear hx4)) | (go_at_call 50; clear T4; go_must (refine (slice_any D HDl.out _).mono ?_; rintro e w5 ⟨v5, rfl, hn5⟩; have HB5 := Lib.hid hn5.bs; have HN5 := Lib.hid (HN4.out.grow hn5.ext); have T5 : True := trivial; clear hn5)) | (at_builtin; clear T5; go_must (refine wpList_append_bs rfl _ _ rfl _ rfl HN5.out.own _ rfl HB5.out (by omega) ?_; intro v6 w6 ho6 hg6 hf6; have HN6 := Lib.hid (HN5.out.app ho6 hg6 hf6); have T6 : True := trivial; clear ho6 hg6 hf6)) | (go_at_call 31; clear T6; go_must (refine (refsum_any _ (p5c ++ D) (by rw [List.length_append]; omega) _ HN6.out.bs).mono ?_; rintro e w7 ⟨rfl, hx7⟩; rw [HTT.out]; have HX7 : Hid (Ext w0 w7) := Lib.hid ((HN2.out.ext.trans HN6.out.ext).trans hx7); clear hx7)) | (refine wpl_store27 rfl _ _ rfl w.heap.size T (Sha.zeros 32) rfl rfl HTl.out (by simp [Sha.zeros]) (Blk.ext HR0.out HX7.out) ?_; intro w8 h8 hu8; have H8 := Lib.hid h8; have HX8 := Lib.hid ((HW0.out.trans HX7.out).upd_new hu8 (Nat.le_refl _)); clear h8 hu8))
    exact ret27 rfl w.heap.size T HTl.out rfl H8.out rfl ⟨rfl, HX8.out⟩
  · have hkk : key = kl := by have := HKL2.out; unfold Sha.keyOf at this; rw [if_neg h64] at this; exact this
    have HB : Hid (Bs w (.slice A' key.length cap') kl) := Lib.hid (by rw [← hkk]; exact HK.out)
    clear hkk
    have hR0 : Blk (w.alloc (.cells (row8 (Sha.zeros 32)) 27)) w.heap.size 27 (Sha.zeros 32) := heap_alloc_last w _
    have hw0 : Ext w (w.alloc (.cells (row8 (Sha.zeros 32)) 27)) := (Ext.refl w).alloc _
    have HR0 := Lib.hid hR0
    have HW0 := Lib.hid hw0
    have T0 : True := trivial
    clear hR0 hw0
    go_enter Try.func46, Try.ntmps46
    go_wp2_with (first | (refine wpl_alloc_agg rfl 27 rfl _ zero27.1 ?_) | (go_at_call 91; clear T0; go_must (generalize w.alloc (.cells (row8 (Sha.zeros 32)) 27) = w0 at HR0 HW0 ⊢; refine (rpad_any _ kl 0x36 HKL.out _ (Rd.ext HB.out HW0.out)).mono ?_; rintro e w1 ⟨v1, rfl, hn1⟩; rw [HP36.out] at hn1; have HN1 := Lib.hid hn1; have T1 : True := trivial; clear hn1)) | (at_builtin; clear T1; go_must (refine wpList_append_bs rfl _ _ rfl _ rfl HN1.out.own _ rfl (Rd.ext HM.out (HW0.out.trans HN1.out.ext)) (by omega) ?_; intro v2 w2 ho2 hg2 hf2; have HN2 := Lib.hid (HN1.out.app ho2 hg2 hf2); have T2 : True := trivial; clear ho2 hg2 hf2)) | (go_at_call 91; clear T2; go_must (refine (rpad_any _ kl 0x5c HKL.out _ (Rd.ext HB.out (HW0.out.trans HN2.out.ext))).mono ?_; rintro e w3 ⟨v3, rfl, hn3⟩; rw [HP5c.out] at hn3; have HN3 := Lib.hid hn3; have T3 : True := trivial; clear hn3)) | (go_at_call 31; clear T3; go_must (refine (refsum_any _ (p36 ++ m) (by rw [List.length_append]; omega) _ (Rd.ext HN2.out.bs HN3.out.ext)).mono ?_; rintro e w4 ⟨rfl, hx4⟩; rw [HD.out]; have HN4 := Lib.hid (HN3.out.grow hx4); have T4 : True := trivial; clear hx4)) | (go_at_call 50; clear T4; go_must (refine (slice_any D HDl.out _).mono ?_; rintro e w5 ⟨v5, rfl, hn5⟩; have HB5 := Lib.hid hn5.bs; have HN5 := Lib.hid (HN4.out.grow hn5.ext); have T5 : True := trivial; clear hn5)) | (at_builtin; clear T5; go_must (refine wpList_append_bs rfl _ _ rfl _ rfl HN5.out.own _ rfl HB5.out (by omega) ?_; intro v6 w6 ho6 hg6 hf6; have HN6 := Lib.hid (HN5.out.app ho6 hg6 hf6); have T6 : True := trivial; clear ho6 hg6 hf6)) | (go_at_call 31; clear T6; go_must (refine (refsum_any _ (p5c ++ D) (by rw [List.length_append]; omega) _ HN6.out.bs).mono ?_; rintro e w7 ⟨rfl, hx7⟩; rw [HTT.out]; have HX7 : Hid (Ext w0 w7) := Lib.hid ((HN2.out.ext.trans HN6.out.ext).trans hx7); clear hx7)) | (refine wpl_store27 rfl _ _ rfl w.heap.size T (Sha.zeros 32) rfl rfl HTl.out (by simp [Sha.zeros]) (Blk.ext HR0.out HX7.out) ?_; intro w8 h8 hu8; have H8 := Lib.hid h8; have HX8 := Lib.hid ((HW0.out.trans HX7.out).upd_new hu8 (Nat.le_refl _)); clear h8 hu8))
    exact ret27 rfl w.heap.size T HTl.out rfl H8.out rfl ⟨rfl, HX8.out⟩
end Go.Proofs.Ytapojpjmeadabaa

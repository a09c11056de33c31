/- sacristanlaw02.ShaSums, ShaSteps: the sum is that of the chapter. -/
import Derived.Test.YtapojpjmeadabaaByt
import Derived.Test.YtapojpjmeadabaaRefh
import Derived.Test.YtapojpjmeadabaaOne
namespace Go.Proofs.Ytapojpjmeadabaa
open Go.RowKit
set_option linter.unusedVariables false
set_option linter.unusedSimpArgs false
attribute [local go_sem] lt_ext cell?_ext frozen?_ext shape?_ext

theorem join_fl (fl : List UInt8) (lv : Value) (vs : List Value) (ls : List (List UInt8)) (w : World) (hf : Hid (ls.flatten = fl)) (hL : Rss w lv vs ls) (hle : fl.length ≤ 4294967296) :
    Calls Try.prog 28 #[lv] w fun e w' => ∃ v, e = .returned v ∧ NewB w v fl w' := by
  have h := hf.out
  subst h
  exact join_any lv vs ls w hL hle
theorem sum_fl (fl : List UInt8) (lv : Value) (vs : List Value) (ls : List (List UInt8)) (w : World) (hf : Hid (ls.flatten = fl)) (hL : Rss w lv vs ls) (hle : fl.length ≤ 2147483648) :
    Calls Try.prog 30 #[lv] w fun e w' => e = .returned (Dig (Sha.sum fl)) ∧ Ext w w' := by
  have h := hf.out
  subst h
  exact sum_any lv vs ls w hL hle
set_option maxRecDepth 100000 in
set_option maxHeartbeats 2000000 in
theorem sums_of (fl : List UInt8) (lv : Value) (vs : List Value) (ls : List (List UInt8)) (w : World) (hf : Hid (ls.flatten = fl)) (hL : Rss w lv vs ls) (hle : fl.length ≤ 1048576) :
    Calls Try.prog 3 #[lv] w fun e w' => e = .returned (.bool true) ∧ Ext w w' := by
  obtain ⟨A, cap, rfl, hcap, hcm, _, _⟩ := hL.rd.is
  have hlm : ls.length ≤ maxLen := Nat.le_trans hcap hcm
  unfold maxLen at hlm
  have HL := Lib.hid hL
  clear hL
  by_cases h1 : 1500 < fl.length
  · go_enter Try.func3, Try.ntmps3
    go_wp2_with (first | (go_at_call 28; go_must (refine (join_fl fl _ vs ls _ hf HL.out (by omega)).mono ?_; rintro e w1 ⟨v, rfl, hn⟩; obtain ⟨A1, cap1, rfl, hcap1, hcm1, _, _⟩ := hn.bs.is; have HX1 := Lib.hid hn.ext; clear hn)) | (go_at_call 29; go_must (refine (known_any _).mono ?_; rintro e w2 ⟨rfl, hx2⟩; have HX2 := Lib.hid (HX1.out.trans hx2); clear hx2)))
    go_ret
    exact ⟨rfl, HX2.out⟩
  by_cases h2 : 100 < ls.length
  · go_enter Try.func3, Try.ntmps3
    go_wp2_with (first | (go_at_call 28; go_must (refine (join_fl fl _ vs ls _ hf HL.out (by omega)).mono ?_; rintro e w1 ⟨v, rfl, hn⟩; obtain ⟨A1, cap1, rfl, hcap1, hcm1, _, _⟩ := hn.bs.is; have HX1 := Lib.hid hn.ext; clear hn)) | (go_at_call 29; go_must (refine (known_any _).mono ?_; rintro e w2 ⟨rfl, hx2⟩; have HX2 := Lib.hid (HX1.out.trans hx2); clear hx2)))
    go_ret
    exact ⟨rfl, HX2.out⟩
  go_enter Try.func3, Try.ntmps3
  go_wp2_with (first | (go_at_call 28; go_must (refine (join_fl fl _ vs ls _ hf HL.out (by omega)).mono ?_; rintro e w1 ⟨v, rfl, hn⟩; obtain ⟨A1, cap1, rfl, hcap1, hcm1, _, _⟩ := hn.bs.is; have HN1 := Lib.hid hn; clear hn)) | (go_at_call 30; go_must (refine (sum_fl fl _ vs ls _ hf (HL.out.ext HN1.out.ext) (by omega)).mono ?_; rintro e w2 ⟨rfl, hx2⟩; have HN2 := Lib.hid (HN1.out.grow hx2); clear hx2)) | (go_at_call 31; go_must (refine (refsum_any _ fl (by omega) _ HN2.out.bs).mono ?_; rintro e w3 ⟨rfl, hx3⟩; have HN3 := Lib.hid (HN2.out.grow hx3); clear hx3)) | (refine wpl_v (by rfl) _ (exec_eq27 _ _ _ rfl (Sha.sum fl) (Sha.sum fl) rfl rfl (Sha.sum_length _) (Sha.sum_length _) _) ?_) | (go_at_call 29; go_must (refine (known_any _).mono ?_; rintro e w4 ⟨rfl, hx4⟩; have HX4 := Lib.hid (HN3.out.ext.trans hx4); clear hx4)))
  go_ret
  exact ⟨rfl, HX4.out⟩
theorem sums_any (lv : Value) (vs : List Value) (ls : List (List UInt8)) (w : World) (hL : Rss w lv vs ls) (hle : ls.flatten.length ≤ 1048576) :
    Calls Try.prog 3 #[lv] w fun e w' => e = .returned (.bool true) ∧ Ext w w' := sums_of ls.flatten lv vs ls w (Lib.hid rfl) hL hle

theorem rss_take {w : World} {b o n cap : Nat} {vs : List Value} {ls : List (List UInt8)} (h : Rss w (.slice (some ⟨b, o, none⟩) n cap) vs ls) (k : Nat) (hk : k ≤ ls.length) :
    Rss w (.slice (some ⟨b, o, none⟩) k cap) (vs.take k) (ls.take k) := by
  obtain ⟨A, cap', hv, h1, h2, h3, h4⟩ := h.rd.is
  injection hv with e1 e2 e3
  subst e2; subst e3
  have hlen : (ls.take k).length = k := by simp; omega
  have hvl : vs.length = ls.length := by have := h.rd.len; omega
  refine ⟨?_, fun i hi => ?_⟩
  · rw [hlen]
    refine ⟨by simp; omega, _, cap, rfl, by omega, h2, (fun e => nomatch e), fun h0 => ?_⟩
    obtain ⟨b', o', e, hb, hc⟩ := h4 (by omega)
    rw [← e1] at e
    exact ⟨b', o', e, hb, fun j u hj => hc j u (by rw [List.getElem?_take] at hj; split at hj; exact hj; cases hj)⟩
  · rw [hlen] at hi
    obtain ⟨u, hu, hb⟩ := h.each i (by omega)
    refine ⟨u, by rw [List.getElem?_take, if_pos hi]; exact hu, ?_⟩
    have e : (ls.take k).getD i [] = ls.getD i [] := by simp [List.getD, List.getElem?_take, hi]
    rw [e]
    exact hb
set_option maxRecDepth 100000 in
set_option maxHeartbeats 2000000 in
theorem steps_of (fl : List UInt8) (lv : Value) (vs : List Value) (ls : List (List UInt8)) (w : World) (hf : Hid (ls.flatten = fl)) (hL : Rss w lv vs ls) (hle : fl.length ≤ 1048576) :
    Calls Try.prog 4 #[lv] w fun e w' => e = .returned (.bool true) ∧ Ext w w' := by
  obtain ⟨A, cap, rfl, hcap, hcm, _, _⟩ := hL.rd.is
  have hlm : ls.length ≤ maxLen := Nat.le_trans hcap hcm
  unfold maxLen at hlm hcm
  have HL := Lib.hid hL
  clear hL
  by_cases h1 : 600 < fl.length
  · go_enter Try.func4, Try.ntmps4
    go_wp2_with (first | (go_at_call 28; go_must (refine (join_fl fl _ vs ls _ hf HL.out (by omega)).mono ?_; rintro e w1 ⟨v, rfl, hn⟩; obtain ⟨A1, cap1, rfl, hcap1, hcm1, _, _⟩ := hn.bs.is; have HX1 := Lib.hid hn.ext; clear hn)) | (go_at_call 29; go_must (refine (known_any _).mono ?_; rintro e w2 ⟨rfl, hx2⟩; have HX2 := Lib.hid (HX1.out.trans hx2); clear hx2)))
    go_ret
    exact ⟨rfl, HX2.out⟩
  by_cases h2 : 20 < ls.length
  · go_enter Try.func4, Try.ntmps4
    go_wp2_with (first | (go_at_call 28; go_must (refine (join_fl fl _ vs ls _ hf HL.out (by omega)).mono ?_; rintro e w1 ⟨v, rfl, hn⟩; obtain ⟨A1, cap1, rfl, hcap1, hcm1, _, _⟩ := hn.bs.is; have HX1 := Lib.hid hn.ext; clear hn)) | (go_at_call 29; go_must (refine (known_any _).mono ?_; rintro e w2 ⟨rfl, hx2⟩; have HX2 := Lib.hid (HX1.out.trans hx2); clear hx2)))
    go_ret
    exact ⟨rfl, HX2.out⟩
  go_enter Try.func4, Try.ntmps4
  go_wp2_with (first | (go_at_call 28; go_must (refine (join_fl fl _ vs ls _ hf HL.out (by omega)).mono ?_; rintro e w1 ⟨v, rfl, hn⟩; obtain ⟨A1, cap1, rfl, hcap1, hcm1, _, _⟩ := hn.bs.is; have HX1 := Lib.hid hn.ext; clear hn)) | (go_at_call 32; go_must (refine (new_any _).mono ?_; rintro e w2 ⟨hb, kb, rfl, hH2, hx2, hg2, hk2⟩; have HO2 := Lib.hid (⟨hH2, HX1.out.trans hx2, Nat.le_trans HX1.out.size hg2, fun g hg => nomatch hg⟩ : OurH w hb kb (.slice none 0 0) [] w2); clear hH2 hx2 hg2)))
  go_loopw [4] (fun i wr => ∃ (k : Nat) (rv : Value), k ≤ ls.length ∧ i = .int .i64 k ∧ OurH w hb kb rv (ls.take k).flatten wr) (fun i _ => ls.length - (intOf i).toNat)
  case atStart => exact ⟨0, .slice none 0 0, by omega, rfl, HO2.out⟩
  case round =>
    obtain ⟨k, rv, hk, rfl, hour⟩ := hrel
    have hx := hour.ext
    have hfl := flat_take_le ls (k + 1)
    rw [hf.out] at hfl
    by_cases hlt : k < ls.length
    · obtain ⟨b, o, cap', hA, _, _, hbl, hcell⟩ := HL.out.rd.pos (by omega)
      injection hA with hA1 hA2 hA3
      subst hA1
      subst hA3
      obtain ⟨u, hu, hub⟩ := HL.out.each k hlt
      have hc := (hx.cell b (o + k) hbl).trans (hcell k u hu)
      have hbw : b < wr.heap.size := Nat.lt_of_lt_of_le hbl hx.size
      have HU := Lib.hid (Rd.ext hub hx)
      have HO := Lib.hid hour
      obtain ⟨p, hp⟩ : ∃ p, (ls.take k).flatten = p := ⟨_, rfl⟩
      obtain ⟨q, hq⟩ : ∃ q, (ls.take (k + 1)).flatten = q := ⟨_, rfl⟩
      have hpq : p ++ ls.getD k [] = q := by rw [← hp, ← hq, flat_take_succ ls k hlt]
      have hpl : p.length + (ls.getD k []).length ≤ 1048576 := by rw [← List.length_append, hpq, ← hq]; omega
      have hql : q.length ≤ 1048576 := by rw [← hq]; omega
      rw [hp] at HO
      have HPQ := Lib.hid hpq
      have HQ := Lib.hid hq
      have HT := Lib.hid (rss_take HL.out (k + 1) (by omega))
      have hk0 : (0 : Int) ≤ (k : Int) + 1 := by omega
      have hk1 : (k : Int) + 1 ≤ (cap : Int) := by omega
      clear hour hub hu hcell hp hpq hq hfl HO2 hx
      go_wp2_with (go_at_call 33; go_must (refine (write_any hb kb rv _ p (ls.getD k []) _ HO.out.at_ HU.out (by omega)).mono ?_; rintro e w3 ⟨rfl, rv3, hH3, hc3, hf3⟩; have HO3 := Lib.hid (HO.out.wrote hH3 hc3 hf3); rw [HPQ.out] at HO3; clear hH3 hc3 hf3))
      refine wp_region_m (by kernel_rfl) (by kernel_rfl) ?_; try simp only [Act.put, List.setIfInBounds_toArray, List.set_cons_succ, List.set_cons_zero]
      repeat (refine gq rfl rfl rfl rfl (fun K hK => ?_); go_big_quiet_op; refine hK _ ?_; clear hK K)
      refine gc rfl rfl rfl rfl 34 #[.pointer (some ⟨hb, 0, none⟩)] (fun _ => by go_simp) (Dig (Sha.sum q)) (fun x => hsum_any hb kb _ q _ (HO3.out.grow (ext_ext w3 x)).at_ (by omega)) ?_
      simp only [Act.put, List.setIfInBounds_toArray, List.set_cons_succ, List.set_cons_zero]
      repeat (refine gq rfl rfl rfl rfl (fun K hK => ?_); go_big_quiet_op; refine hK _ ?_; clear hK K)
      refine gcp rfl rfl rfl rfl 28 #[.slice (some ⟨b, o, none⟩) (k + 1) cap] (fun _ => by go_simp) 34 rfl (BsR q) BsR.ext (fun x => (join_fl q _ _ _ _ HQ (HT.out.ext (HO3.out.ext.trans (ext_ext w3 x))) (by omega)).mono (fun e w' ⟨v, he, hn⟩ => ⟨v, he, hn.bs, hn.ext⟩)) ?_
      simp only [Act.put, List.setIfInBounds_toArray, List.set_cons_succ, List.set_cons_zero]
      refine gcx rfl rfl 31 (fun xs => #[xs 34]) (Dig (Sha.sum q)) (fun xs => rfl) (fun xs w => by simp only [fillM, Act.put, List.setIfInBounds_toArray, List.set_cons_succ, List.set_cons_zero]; go_simp) (fun xs x hk => refsum_any _ q (by omega) _ (hk 34 (by decide) (by simp) _ rfl)) ?_
      simp only [Act.put, List.setIfInBounds_toArray, List.set_cons_succ, List.set_cons_zero]
      refine ge rfl rfl rfl rfl _ (exec_ne27 _ _ _ rfl (Sha.sum q) (Sha.sum q) rfl rfl (Sha.sum_length _) (Sha.sum_length _)) ?_
      simp only [decide_true]
      simp only [Act.put, List.setIfInBounds_toArray, List.set_cons_succ, List.set_cons_zero]
      refine gm_end_at rfl [(34, BsR q)] rfl (fun xs x hk => ?_)
      clear hk
      simp only [fillM, Act.put, List.setIfInBounds_toArray, List.set_cons_succ, List.set_cons_zero]
      go_wp2
      go_roundw
      case rel => exact ⟨k + 1, rv3, by omega, by go_num, by rw [HQ.out]; exact HO3.out.grow (ext_ext w3 x)⟩
      case measure => simp [intOf]; omega
    · clear hour hfl HO2
      have HX := Lib.hid hx
      clear hx
      go_wp2_with (go_at_call 29; go_must (refine (known_any _).mono ?_; rintro e w6 ⟨rfl, hx6⟩; have HX6 := Lib.hid (HX.out.trans hx6); clear hx6))
      go_ret
      exact ⟨rfl, HX6.out⟩
theorem steps_any (lv : Value) (vs : List Value) (ls : List (List UInt8)) (w : World) (hL : Rss w lv vs ls) (hle : ls.flatten.length ≤ 1048576) :
    Calls Try.prog 4 #[lv] w fun e w' => e = .returned (.bool true) ∧ Ext w w' := steps_of ls.flatten lv vs ls w (Lib.hid rfl) hL hle
end Go.Proofs.Ytapojpjmeadabaa

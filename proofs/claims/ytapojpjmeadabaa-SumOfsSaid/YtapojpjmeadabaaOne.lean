/- sacristanlaw02.ShaOne: two hashes side by side. -/
import Derived.Test.YtapojpjmeadabaaCopies
import Derived.Test.YtapojpjmeadabaaRegw
namespace Go.Proofs.Ytapojpjmeadabaa
open Go.RowKit
set_option linter.unusedVariables false
set_option linter.unusedSimpArgs false
attribute [local go_sem] lt_ext cell?_ext frozen?_ext shape?_ext

/-- Two Hashes of our own, apart. -/
structure Pair (w0 : World) (hb kb : Nat) (rv : Value) (m : List UInt8) (hb2 kb2 : Nat) (rv2 : Value) (m2 : List UInt8) (w : World) : Prop where
  one : OurH w0 hb kb rv m w
  two : OurH w0 hb2 kb2 rv2 m2 w
  ne : hb2 ≠ hb
  ap : ∀ g, rv.ownBlock = some g → rv2.ownBlock = some g → False
theorem Pair.swap {w0 w : World} {hb kb hb2 kb2 : Nat} {rv rv2 : Value} {m m2 : List UInt8} (h : Pair w0 hb kb rv m hb2 kb2 rv2 m2 w) : Pair w0 hb2 kb2 rv2 m2 hb kb rv m w :=
  ⟨h.two, h.one, fun e => h.ne e.symm, fun g h1 h2 => h.ap g h2 h1⟩
theorem Pair.grow {w0 w w' : World} {hb kb hb2 kb2 : Nat} {rv rv2 : Value} {m m2 : List UInt8} (h : Pair w0 hb kb rv m hb2 kb2 rv2 m2 w) (hx : Ext w w') : Pair w0 hb kb rv m hb2 kb2 rv2 m2 w' :=
  ⟨h.one.grow hx, h.two.grow hx, h.ne, h.ap⟩
theorem Pair.wrote {w0 w w' : World} {hb kb hb2 kb2 : Nat} {rv rv2 rv' : Value} {m m2 m' : List UInt8} (h : Pair w0 hb kb rv m hb2 kb2 rv2 m2 w) (hH : HashAt w' hb kb rv' m') (hc : Chg w w' (hset hb rv))
    (hf : rv'.ownBlock = rv.ownBlock ∨ ∀ g, rv'.ownBlock = some g → w.heap.size ≤ g) : Pair w0 hb kb rv' m' hb2 kb2 rv2 m2 w' := by
  have h1 := h.one.wrote hH hc hf
  refine ⟨h1, ⟨h.one.at_.other h.two.at_ h.ne h.ap hc, h1.ext, h.two.ge, h.two.fr⟩, h.ne, fun g e1 e2 => ?_⟩
  rcases hf with e | e
  · exact h.ap g (e ▸ e1) e2
  · have := e g e1
    have := h.two.at_.rlt e2
    omega
/-- A slice of slices that reads as ls. -/
def RssR (ls : List (List UInt8)) (u : Value) (w : World) : Prop := ∃ vs, Rss w u vs ls
theorem RssR.ext {ls : List (List UInt8)} (u : Value) (w w' : World) (h1 : Ext w w') (h2 : RssR ls u w) : RssR ls u w' := by
  obtain ⟨vs, h⟩ := h2
  exact ⟨vs, h.ext h1⟩
theorem Rss.three (w : World) (u u' u'' : Value) (l l' l'' : List UInt8) (h : Bs w u l) (h' : Bs w u' l') (h'' : Bs w u'' l'') : Rss (w.alloc (.cells #[u, u', u''] 23)) (.slice (some ⟨w.heap.size, 0, none⟩) 3 3) [u, u', u''] [l, l', l''] :=
  Rss.lit w [u, u', u''] [l, l', l''] _ rfl 3 rfl rfl (by simp) fun i hi => by
    have hi' : i < 3 := by simpa using hi
    rcases (show i = 0 ∨ i = 1 ∨ i = 2 by omega) with rfl | rfl | rfl
    · exact ⟨u, rfl, h⟩
    · exact ⟨u', rfl, h'⟩
    · exact ⟨u'', rfl, h''⟩
theorem Rss.none (w : World) : Rss w (.slice none 0 0) [] [] := ⟨Rd.zero (Nat.zero_le _) (fun _ => rfl), fun i hi => absurd hi (Nat.not_lt_zero _)⟩

set_option maxRecDepth 100000 in
set_option maxHeartbeats 6000000 in
theorem one_any (va vb vc : Value) (la lb lc : List UInt8) (ha : la.length ≤ 140737488355328) (hb0 : lb.length ≤ 140737488355328) (hc0 : lc.length ≤ 140737488355328) (w : World) (hA : Bs w va la) (hB : Bs w vb lb) (hC : Bs w vc lc) :
    Calls Try.prog 7 #[va, vb, vc] w fun e w' => e = .returned (.bool true) ∧ Ext w w' := by
  obtain ⟨A, cap, rfl, hcap, hcm, _, _⟩ := hA.is
  obtain ⟨A', cap', rfl, hcap', hcm', _, _⟩ := hB.is
  obtain ⟨A'', cap'', rfl, hcap'', hcm'', _, _⟩ := hC.is
  have HA := Lib.hid hA
  have HB := Lib.hid hB
  have HC := Lib.hid hC
  clear hA hB hC
  by_cases h1 : 900 < la.length + lb.length + lc.length
  · go_enter Try.func7, Try.ntmps7
    go_wp2_with (go_at_call 29; go_must (refine (known_any _).mono ?_; rintro e w1 ⟨rfl, hx1⟩))
    go_ret
    exact ⟨rfl, hx1⟩
  have T0 : True := trivial
  go_enter Try.func7, Try.ntmps7
  go_wp2_with (first | (go_at_call 32; clear T0; go_must (refine (new_any _).mono ?_; rintro e w1 ⟨hb, kb, rfl, hH1, hx1, hg1, hk1⟩; have HO1 := Lib.hid (⟨hH1, hx1, hg1, fun g hg => nomatch hg⟩ : OurH w hb kb (.slice none 0 0) [] w1); have T1 : True := trivial; clear hH1 hx1 hg1)) | (go_at_call 32; clear T1; go_must (refine (new_any _).mono ?_; rintro e w2 ⟨hb2, kb2, rfl, hH2, hx2, hg2, hk2⟩; have HP2 := Lib.hid (⟨HO1.out.grow hx2, ⟨hH2, HO1.out.ext.trans hx2, Nat.le_trans HO1.out.ext.size hg2, fun g hg => nomatch hg⟩, (by have := HO1.out.at_.lt; omega), fun g e => nomatch e⟩ : Pair w hb kb (.slice none 0 0) [] hb2 kb2 (.slice none 0 0) [] w2); have T2 : True := trivial; clear hH2 hx2 hg2)) | (go_at_call 34; clear T2; go_must (refine (hsum_any hb kb _ [] _ HP2.out.one.at_ (by decide)).mono ?_; rintro e w3 ⟨rfl, hx3⟩; have HP3 := Lib.hid (HP2.out.grow hx3); have T3 : True := trivial; clear hx3)) | (go_at_call 30; clear T3; go_must (refine (sum_any _ [] [] _ (Rss.none w3) (by decide)).mono ?_; rintro e w4 ⟨rfl, hx4⟩; rw [show ([] : List (List UInt8)).flatten = [] from rfl]; have HP4 := Lib.hid (HP3.out.grow hx4); have T4 : True := trivial; clear hx4)) | (refine wpl_v (by rfl) _ (exec_ne27 _ _ _ rfl (Sha.sum []) (Sha.sum []) rfl rfl (Sha.sum_length _) (Sha.sum_length _) _) ?_) | (go_at_call 33; clear T4; go_must (refine (write_any hb kb _ _ [] la _ HP4.out.one.at_ (Rd.ext HA.out HP4.out.one.ext) (by simp; omega)).mono ?_; rintro e w5 ⟨rfl, rv5, hH5, hc5, hf5⟩; rw [List.nil_append] at hH5; have HP5 := Lib.hid (HP4.out.wrote hH5 hc5 hf5); have T5 : True := trivial; clear hH5 hc5 hf5)) | (go_at_call 33; clear T5; go_must (refine (write_any hb2 kb2 _ _ [] lb _ HP5.out.two.at_ (Rd.ext HB.out HP5.out.one.ext) (by simp; omega)).mono ?_; rintro e w6 ⟨rfl, rv6, hH6, hc6, hf6⟩; rw [List.nil_append] at hH6; have HP6 := Lib.hid (HP5.out.swap.wrote hH6 hc6 hf6).swap; have T6 : True := trivial; clear hH6 hc6 hf6)) | (go_at_call 34; clear T6; go_must (refine (hsum_any hb kb _ la _ HP6.out.one.at_ (by omega)).mono ?_; rintro e w7 ⟨rfl, hx7⟩; have HP7 := Lib.hid (HP6.out.grow hx7); have T7 : True := trivial; clear hx7)) | (refine wpl_alloc_agg rfl 27 rfl _ zero27.1 ?_) | (refine wpl_store27 rfl _ _ rfl w7.heap.size (Sha.sum la) (Sha.zeros 32) rfl rfl (Sha.sum_length _) (by simp [Sha.zeros]) (heap_alloc_last w7 _) ?_; intro w8 h8 hu8; have H8 := Lib.hid h8; have HP8 := Lib.hid (HP7.out.grow (((Ext.refl w7).alloc _).upd_new hu8 (Nat.le_refl _))); have hs8 : w7.heap.size < w8.heap.size := (Array.getElem?_eq_some_iff.1 h8).1; clear h8 hu8) | (go_at_call 33; clear T7; go_must (refine (write_any hb kb _ _ la lc _ HP8.out.one.at_ (Rd.ext HC.out HP8.out.one.ext) (by omega)).mono ?_; rintro e w9 ⟨rfl, rv9, hH9, hc9, hf9⟩; have HP9 := Lib.hid (HP8.out.wrote hH9 hc9 hf9); have H9 := Lib.hid ((hc9.block w7.heap.size hs8 (fun e => e.elim (fun e => by have := HP7.out.one.at_.lt; omega) (fun e => by have := HP7.out.one.at_.rlt e.symm; omega))).trans H8.out); have T8 : True := trivial; have hs9 : w7.heap.size < w9.heap.size := Nat.lt_of_lt_of_le hs8 hc9.size; clear hH9 hc9 hf9)) | (go_at_call 33; clear T8; go_must (refine (write_any hb2 kb2 _ _ lb lc _ HP9.out.two.at_ (Rd.ext HC.out HP9.out.one.ext) (by omega)).mono ?_; rintro e w10 ⟨rfl, rv10, hH10, hc10, hf10⟩; have HP10 := Lib.hid (HP9.out.swap.wrote hH10 hc10 hf10).swap; have H10 := Lib.hid ((hc10.block w7.heap.size hs9 (fun e => e.elim (fun e => by have := HP7.out.two.at_.lt; omega) (fun e => by have := HP7.out.two.at_.rlt e.symm; omega))).trans H9.out); have hs10 : w7.heap.size < w10.heap.size := Nat.lt_of_lt_of_le hs9 hc10.size; clear hH10 hc10 hf10)))
  clear H8 H9 HP2 HP3 HP4 HP5 HP6 HP7 HP8 HP9 HO1
  refine wp_region_m (by kernel_rfl) (by kernel_rfl) ?_
  refine gm_x rfl rfl rfl rfl _ (fun x => exec_load27 _ rfl w7.heap.size rfl (Sha.sum la) (Sha.sum_length _) _ ((ext_heap w10 x _ hs10).trans H10.out)) ?_
  simp only [Act.put, List.setIfInBounds_toArray, List.set_cons_succ, List.set_cons_zero]
  repeat (refine gm_q rfl rfl rfl rfl (fun K hK => ?_); go_big_quiet_op; refine hK _ ?_; clear hK K)
  refine gm_v rfl rfl rfl rfl 42 rfl (RssR [la]) RssR.ext (fun x => ⟨_, _, by go_simp <;> first | exact ⟨rfl, rfl⟩ | rfl, ⟨_, Rss.one _ _ la (Rd.ext HA.out (HP10.out.one.ext.trans (ext_ext w10 x)))⟩, (Ext.refl _).alloc _⟩) ?_
  simp only [Act.put, List.setIfInBounds_toArray, List.set_cons_succ, List.set_cons_zero]
  refine gm_M [(42, RssR [la])] rfl ?_
  refine gm_co rfl [(42, RssR [la])] rfl 42 _ (by decide) (by simp) rfl 30 (Dig (Sha.sum (la))) (fun xs => rfl) (fun xs w => by simp only [fillM, Act.put, List.setIfInBounds_toArray, List.set_cons_succ, List.set_cons_zero]; go_simp) (fun x u ⟨vs, hu⟩ => by have h := sum_any u vs [la] _ hu (by simp; omega); rw [show ([la]).flatten = la by simp] at h; exact h) ?_
  simp only [Act.put, List.setIfInBounds_toArray, List.set_cons_succ, List.set_cons_zero]
  refine gm_M [(42, RssR [la])] rfl ?_
  refine gm_e rfl rfl rfl rfl _ (exec_eq27 _ _ _ rfl (Sha.sum (la)) (Sha.sum (la)) rfl rfl (Sha.sum_length _) (Sha.sum_length _)) ?_
  simp only [decide_true]
  simp only [Act.put, List.setIfInBounds_toArray, List.set_cons_succ, List.set_cons_zero]
  refine gm_M [(42, RssR [la])] rfl ?_
  repeat (refine gm_q rfl rfl rfl rfl (fun K hK => ?_); go_big_quiet_op; refine hK _ ?_; clear hK K)
  refine gm_M [(42, RssR [la])] rfl ?_
  refine gm_c rfl rfl rfl rfl 34 #[.pointer (some ⟨hb, 0, none⟩)] (fun _ => by go_simp) (Dig (Sha.sum (la ++ lc))) (fun x => hsum_any hb kb _ (la ++ lc) _ (HP10.out.one.grow (ext_ext w10 x)).at_ (by simp; omega)) ?_
  simp only [Act.put, List.setIfInBounds_toArray, List.set_cons_succ, List.set_cons_zero]
  refine gm_M [(42, RssR [la])] rfl ?_
  repeat (refine gm_q rfl rfl rfl rfl (fun K hK => ?_); go_big_quiet_op; refine hK _ ?_; clear hK K)
  refine gm_M [(42, RssR [la])] rfl ?_
  refine gm_v rfl rfl rfl rfl 50 rfl (RssR [la, lc]) RssR.ext (fun x => ⟨_, _, by go_simp <;> first | exact ⟨rfl, rfl⟩ | rfl, ⟨_, Rss.two _ _ _ la lc (Rd.ext HA.out (HP10.out.one.ext.trans (ext_ext w10 x))) (Rd.ext HC.out (HP10.out.one.ext.trans (ext_ext w10 x)))⟩, (Ext.refl _).alloc _⟩) ?_
  simp only [Act.put, List.setIfInBounds_toArray, List.set_cons_succ, List.set_cons_zero]
  refine gm_M [(50, RssR [la, lc]), (42, RssR [la])] rfl ?_
  refine gm_co rfl [(50, RssR [la, lc]), (42, RssR [la])] rfl 50 _ (by decide) (by simp) rfl 30 (Dig (Sha.sum (la ++ lc))) (fun xs => rfl) (fun xs w => by simp only [fillM, Act.put, List.setIfInBounds_toArray, List.set_cons_succ, List.set_cons_zero]; go_simp) (fun x u ⟨vs, hu⟩ => by have h := sum_any u vs [la, lc] _ hu (by simp; omega); rw [show ([la, lc]).flatten = la ++ lc by simp] at h; exact h) ?_
  simp only [Act.put, List.setIfInBounds_toArray, List.set_cons_succ, List.set_cons_zero]
  refine gm_M [(50, RssR [la, lc]), (42, RssR [la])] rfl ?_
  refine gm_e rfl rfl rfl rfl _ (exec_eq27 _ _ _ rfl (Sha.sum (la ++ lc)) (Sha.sum (la ++ lc)) rfl rfl (Sha.sum_length _) (Sha.sum_length _)) ?_
  simp only [decide_true]
  simp only [Act.put, List.setIfInBounds_toArray, List.set_cons_succ, List.set_cons_zero]
  refine gm_M [(50, RssR [la, lc]), (42, RssR [la])] rfl ?_
  repeat (refine gm_q rfl rfl rfl rfl (fun K hK => ?_); go_big_quiet_op; refine hK _ ?_; clear hK K)
  refine gm_M [(50, RssR [la, lc]), (42, RssR [la])] rfl ?_
  refine gm_c rfl rfl rfl rfl 34 #[.pointer (some ⟨hb2, 0, none⟩)] (fun _ => by go_simp) (Dig (Sha.sum (lb ++ lc))) (fun x => hsum_any hb2 kb2 _ (lb ++ lc) _ (HP10.out.two.grow (ext_ext w10 x)).at_ (by simp; omega)) ?_
  simp only [Act.put, List.setIfInBounds_toArray, List.set_cons_succ, List.set_cons_zero]
  refine gm_M [(50, RssR [la, lc]), (42, RssR [la])] rfl ?_
  repeat (refine gm_q rfl rfl rfl rfl (fun K hK => ?_); go_big_quiet_op; refine hK _ ?_; clear hK K)
  refine gm_M [(50, RssR [la, lc]), (42, RssR [la])] rfl ?_
  refine gm_v rfl rfl rfl rfl 59 rfl (RssR [lb, lc]) RssR.ext (fun x => ⟨_, _, by go_simp <;> first | exact ⟨rfl, rfl⟩ | rfl, ⟨_, Rss.two _ _ _ lb lc (Rd.ext HB.out (HP10.out.one.ext.trans (ext_ext w10 x))) (Rd.ext HC.out (HP10.out.one.ext.trans (ext_ext w10 x)))⟩, (Ext.refl _).alloc _⟩) ?_
  simp only [Act.put, List.setIfInBounds_toArray, List.set_cons_succ, List.set_cons_zero]
  refine gm_M [(59, RssR [lb, lc]), (50, RssR [la, lc]), (42, RssR [la])] rfl ?_
  refine gm_co rfl [(59, RssR [lb, lc]), (50, RssR [la, lc]), (42, RssR [la])] rfl 59 _ (by decide) (by simp) rfl 30 (Dig (Sha.sum (lb ++ lc))) (fun xs => rfl) (fun xs w => by simp only [fillM, Act.put, List.setIfInBounds_toArray, List.set_cons_succ, List.set_cons_zero]; go_simp) (fun x u ⟨vs, hu⟩ => by have h := sum_any u vs [lb, lc] _ hu (by simp; omega); rw [show ([lb, lc]).flatten = lb ++ lc by simp] at h; exact h) ?_
  simp only [Act.put, List.setIfInBounds_toArray, List.set_cons_succ, List.set_cons_zero]
  refine gm_M [(59, RssR [lb, lc]), (50, RssR [la, lc]), (42, RssR [la])] rfl ?_
  refine gm_e rfl rfl rfl rfl _ (exec_eq27 _ _ _ rfl (Sha.sum (lb ++ lc)) (Sha.sum (lb ++ lc)) rfl rfl (Sha.sum_length _) (Sha.sum_length _)) ?_
  simp only [decide_true]
  simp only [Act.put, List.setIfInBounds_toArray, List.set_cons_succ, List.set_cons_zero]
  refine gm_M [(59, RssR [lb, lc]), (50, RssR [la, lc]), (42, RssR [la])] rfl ?_
  repeat (refine gm_q rfl rfl rfl rfl (fun K hK => ?_); go_big_quiet_op; refine hK _ ?_; clear hK K)
  refine gm_M [(59, RssR [lb, lc]), (50, RssR [la, lc]), (42, RssR [la])] rfl ?_
  refine gm_v rfl rfl rfl rfl 66 rfl (RssR [la, [], lc]) RssR.ext (fun x => ⟨_, _, by go_simp <;> first | exact ⟨rfl, rfl⟩ | rfl, ⟨_, Rss.three _ _ _ _ la [] lc (Rd.ext HA.out (HP10.out.one.ext.trans (ext_ext w10 x))) (Rd.zero (Nat.zero_le _) (fun _ => rfl)) (Rd.ext HC.out (HP10.out.one.ext.trans (ext_ext w10 x)))⟩, (Ext.refl _).alloc _⟩) ?_
  simp only [Act.put, List.setIfInBounds_toArray, List.set_cons_succ, List.set_cons_zero]
  refine gm_M [(66, RssR [la, [], lc]), (59, RssR [lb, lc]), (50, RssR [la, lc]), (42, RssR [la])] rfl ?_
  refine gm_co rfl [(66, RssR [la, [], lc]), (59, RssR [lb, lc]), (50, RssR [la, lc]), (42, RssR [la])] rfl 66 _ (by decide) (by simp) rfl 30 (Dig (Sha.sum (la ++ lc))) (fun xs => rfl) (fun xs w => by simp only [fillM, Act.put, List.setIfInBounds_toArray, List.set_cons_succ, List.set_cons_zero]; go_simp) (fun x u ⟨vs, hu⟩ => by have h := sum_any u vs [la, [], lc] _ hu (by simp; omega); rw [show ([la, [], lc]).flatten = la ++ lc by simp] at h; exact h) ?_
  simp only [Act.put, List.setIfInBounds_toArray, List.set_cons_succ, List.set_cons_zero]
  refine gm_M [(66, RssR [la, [], lc]), (59, RssR [lb, lc]), (50, RssR [la, lc]), (42, RssR [la])] rfl ?_
  repeat (refine gm_q rfl rfl rfl rfl (fun K hK => ?_); go_big_quiet_op; refine hK _ ?_; clear hK K)
  refine gm_M [(66, RssR [la, [], lc]), (59, RssR [lb, lc]), (50, RssR [la, lc]), (42, RssR [la])] rfl ?_
  refine gm_v rfl rfl rfl rfl 70 rfl (RssR [la, lc]) RssR.ext (fun x => ⟨_, _, by go_simp <;> first | exact ⟨rfl, rfl⟩ | rfl, ⟨_, Rss.two _ _ _ la lc (Rd.ext HA.out (HP10.out.one.ext.trans (ext_ext w10 x))) (Rd.ext HC.out (HP10.out.one.ext.trans (ext_ext w10 x)))⟩, (Ext.refl _).alloc _⟩) ?_
  simp only [Act.put, List.setIfInBounds_toArray, List.set_cons_succ, List.set_cons_zero]
  refine gm_M [(70, RssR [la, lc]), (66, RssR [la, [], lc]), (59, RssR [lb, lc]), (50, RssR [la, lc]), (42, RssR [la])] rfl ?_
  refine gm_co rfl [(70, RssR [la, lc]), (66, RssR [la, [], lc]), (59, RssR [lb, lc]), (50, RssR [la, lc]), (42, RssR [la])] rfl 70 _ (by decide) (by simp) rfl 30 (Dig (Sha.sum (la ++ lc))) (fun xs => rfl) (fun xs w => by simp only [fillM, Act.put, List.setIfInBounds_toArray, List.set_cons_succ, List.set_cons_zero]; go_simp) (fun x u ⟨vs, hu⟩ => by have h := sum_any u vs [la, lc] _ hu (by simp; omega); rw [show ([la, lc]).flatten = la ++ lc by simp] at h; exact h) ?_
  simp only [Act.put, List.setIfInBounds_toArray, List.set_cons_succ, List.set_cons_zero]
  refine gm_M [(70, RssR [la, lc]), (66, RssR [la, [], lc]), (59, RssR [lb, lc]), (50, RssR [la, lc]), (42, RssR [la])] rfl ?_
  refine gm_e rfl rfl rfl rfl _ (exec_eq27 _ _ _ rfl (Sha.sum (la ++ lc)) (Sha.sum (la ++ lc)) rfl rfl (Sha.sum_length _) (Sha.sum_length _)) ?_
  simp only [decide_true]
  simp only [Act.put, List.setIfInBounds_toArray, List.set_cons_succ, List.set_cons_zero]
  refine gm_M [(70, RssR [la, lc]), (66, RssR [la, [], lc]), (59, RssR [lb, lc]), (50, RssR [la, lc]), (42, RssR [la])] rfl ?_
  repeat (refine gm_q rfl rfl rfl rfl (fun K hK => ?_); go_big_quiet_op; refine hK _ ?_; clear hK K)
  refine gm_M [(70, RssR [la, lc]), (66, RssR [la, [], lc]), (59, RssR [lb, lc]), (50, RssR [la, lc]), (42, RssR [la])] rfl ?_
  refine gm_c rfl rfl rfl rfl 29 #[] (fun _ => by go_simp) (.bool true) (fun x => known_any _) ?_
  simp only [Act.put, List.setIfInBounds_toArray, List.set_cons_succ, List.set_cons_zero]
  refine gm_M [(70, RssR [la, lc]), (66, RssR [la, [], lc]), (59, RssR [lb, lc]), (50, RssR [la, lc]), (42, RssR [la])] rfl ?_
  repeat (refine gm_q rfl rfl rfl rfl (fun K hK => ?_); go_big_quiet_op; refine hK _ ?_; clear hK K)
  refine gm_M [(70, RssR [la, lc]), (66, RssR [la, [], lc]), (59, RssR [lb, lc]), (50, RssR [la, lc]), (42, RssR [la])] rfl ?_
  refine gm_end_at rfl [(70, RssR [la, lc]), (66, RssR [la, [], lc]), (59, RssR [lb, lc]), (50, RssR [la, lc]), (42, RssR [la])] rfl (fun xs x hk => ?_)
  clear hk
  simp only [fillM, Act.put, List.setIfInBounds_toArray, List.set_cons_succ, List.set_cons_zero]
  go_wp2
  go_ret
  exact ⟨rfl, HP10.out.one.ext.trans (ext_ext w10 x)⟩
end Go.Proofs.Ytapojpjmeadabaa

/- Dec5: several texts in one. -/
import Derived.Test.YtapojpjmeadabaaZDec4
section
/- seal.Decode, where it is a seal; Decode, whatever the bytes. -/
namespace Go.Proofs.Ytapojpjmeadabaa
open Go.RowKit
set_option linter.unusedVariables false
set_option linter.unusedSimpArgs false
attribute [local go_sem] lt_ext cell?_ext frozen?_ext shape?_ext

set_option maxRecDepth 100000 in
set_option maxHeartbeats 8000000 in
theorem decode_right (kv bv : Value) (key b sl : List UInt8) (su : List (List UInt8)) (w : World) (hB : Bs w bv b) (hK : Bs w kv key) (hk0 : key.length ≤ 2147483648) (h48 : 48 ≤ b.length) (hb : b.length ≤ 1073741824) (hq : decide (Sha.tag key (fbody b) = ftag b) = true) (hm : decide (b.take 4 = magicL) = true) (hN : fN b ≤ 4096) (hlo : b.length = flong b)
    (hsl : fsl b = sl) (hsu : gsu b = su) (hrb : rightB (fN b) sl su = true) :
    Calls Try.prog 68 #[kv, bv] w fun e w' => ∃ sv gv, e = .returned (.tuple #[.agg #[.int .u64 (fnum b : Int), .int .i64 (fN b : Int), sv, gv], .int .i64 0]) ∧ Bs w' sv sl ∧ Dgs w' gv su ∧ Ext w w' := by
  obtain ⟨Ab, cb, e0, _, _, _, _⟩ := hB.is
  obtain ⟨M, hM⟩ : ∃ M, b.length = M + 32 := ⟨b.length - 32, by omega⟩
  have hM16 : 16 ≤ M := by omega
  have hMb : M ≤ 2147483648 := by omega
  rw [hM] at e0
  subst e0
  have hd : decide ((M : Int) + 32 < 48) = false := decide_eq_false (by omega)
  obtain ⟨V21, hV21, hr21⟩ := run_slice_every ei23 hB (some (.int .i64 (M : Int))) none M b.length (.inr rfl) (.inl ⟨rfl, rfl⟩) (by omega) (Nat.le_refl _)
  obtain ⟨V26, hV26, hr26⟩ := run_slice_every ei23 hB none (some (.int .i64 (M : Int))) 0 M (.inl ⟨rfl, rfl⟩) (.inr rfl) (Nat.zero_le _) (by omega)
  obtain ⟨V33, hV33, hr33⟩ := run_slice_every ei23 hB none (some (.int .i64 ((4 : Nat) : Int))) 0 4 (.inl ⟨rfl, rfl⟩) (.inr rfl) (Nat.zero_le _) (by omega)
  have hT : Bs w V21 (ftag b) := Bs.of_rd (n := b.length - M) (l := b.drop M) (by have := hr21; rw [Bs.sub_list, List.take_length] at this; exact this) (by unfold ftag; rw [List.length_drop]; omega) (by unfold ftag; rw [hM, Nat.add_sub_cancel])
  have hO : Bs w V26 (fbody b) := Bs.of_rd (n := M - 0) (l := b.take M) (by have := hr26; simp only [Nat.mul_one, Nat.zero_mul, List.drop_zero] at this; rw [← List.map_take] at this; exact this) (by unfold fbody; rw [List.length_take]; omega) (by unfold fbody; rw [hM, Nat.add_sub_cancel])
  have hQ : Bs w V33 (b.take 4) := Bs.of_rd (n := 4 - 0) (l := b.take 4) (by have := hr33; simp only [Nat.mul_one, Nat.zero_mul, List.drop_zero] at this; rw [← List.map_take] at this; exact this) (by rw [List.length_take]; omega) rfl
  have hOl : (fbody b).length ≤ 1073741824 := by unfold fbody; rw [List.length_take]; omega
  obtain ⟨T1, hT1⟩ : ∃ T1, ftag b = T1 := ⟨_, rfl⟩
  obtain ⟨O1, hO1⟩ : ∃ O1, fbody b = O1 := ⟨_, rfl⟩
  obtain ⟨Q1, hQ1⟩ : ∃ Q1, b.take 4 = Q1 := ⟨_, rfl⟩
  rw [hT1] at hT
  rw [hO1] at hO hOl
  rw [hQ1] at hQ
  obtain ⟨A26, n26, c26, e26⟩ : ∃ A n c, V26 = .slice A n c := by
    obtain ⟨_, _, e, _⟩ := hO.is
    exact ⟨_, _, _, e⟩
  subst e26
  have HT := Lib.hid hT
  have HO := Lib.hid hO
  have HQ := Lib.hid hQ
  have HV21 := Lib.hid hV21
  have HV26 := Lib.hid hV26
  have HV33 := Lib.hid hV33
  have HK := Lib.hid hK
  have HT1 := Lib.hid hT1
  have HO1 := Lib.hid hO1
  have HQ1 := Lib.hid hQ1
  have HBB : Hid (Bs w (.slice Ab (M + 32) cb) b) := Lib.hid hB
  have HM := Lib.hid hM
  clear hB hr21 hr26 hr33 hT hO hQ hV21 hV26 hV33 hK hT1 hO1 hQ1 hM
  have HQQ : Hid (decide (Sha.tag key O1 = T1) = true) := Lib.hid (by rw [← HO1.out, ← HT1.out]; exact hq)
  have HMQ : Hid ((!decide (Q1 = magicL)) = false) := Lib.hid (by rw [← HQ1.out, hm]; rfl)
  have HLO := Lib.hid hlo
  have HSL := Lib.hid hsl
  have HSU := Lib.hid hsu
  have H32 : Hid (∀ d ∈ su, d.length = 32) := Lib.hid (by rw [← hsu]; exact gsu_all b hlo)
  have HRB := Lib.hid hrb
  clear hq hm hlo hsl hsu hrb
  obtain ⟨V39, hV39, hr39⟩ := run_slice_every ei23 HBB.out (some (.int .i64 ((4 : Nat) : Int))) (some (.int .i64 ((12 : Nat) : Int))) 4 12 (.inr rfl) (.inr rfl) (by decide) (by have := HM.out; omega)
  obtain ⟨V42, hV42, hr42⟩ := run_slice_every ei23 HBB.out (some (.int .i64 ((12 : Nat) : Int))) (some (.int .i64 ((16 : Nat) : Int))) 12 16 (.inr rfl) (.inr rfl) (by decide) (by have := HM.out; omega)
  have h39l : ((b.take 12).drop 4).length = 8 := by rw [List.length_drop, List.length_take]; have := HM.out; omega
  have h42l : ((b.take 16).drop 12).length = 4 := by rw [List.length_drop, List.length_take]; have := HM.out; omega
  have h39 : Bs w V39 ((b.take 12).drop 4) := Bs.of_rd (n := 12 - 4) (l := (b.take 12).drop 4) (by have := hr39; rw [Bs.sub_list] at this; exact this) (by rw [h39l]) rfl
  have h42 : Bs w V42 ((b.take 16).drop 12) := Bs.of_rd (n := 16 - 12) (l := (b.take 16).drop 12) (by have := hr42; rw [Bs.sub_list] at this; exact this) (by rw [h42l]) rfl
  have hnum : spell ((b.take 12).drop 4) ≤ 18446744073709551615 := by have := spell_lt ((b.take 12).drop 4); rw [h39l] at this; omega
  have hNb : spell ((b.take 16).drop 12) ≤ 4294967295 := by have := spell_lt ((b.take 16).drop 12); rw [h42l] at this; omega
  obtain ⟨num, hnumq⟩ : ∃ num, fnum b = num := ⟨_, rfl⟩
  obtain ⟨N, hNq⟩ : ∃ N, fN b = N := ⟨_, rfl⟩
  have hnumq' : spell ((b.take 12).drop 4) = num := hnumq
  have hNq' : spell ((b.take 16).drop 12) = N := hNq
  rw [hnumq'] at hnum
  rw [hNq'] at hNb
  have C39 : Hid (∀ w', Ext w w' → Calls Try.prog 105 #[V39] w' fun e w'' => e = .returned (.int .u64 (num : Int)) ∧ Ext w' w'') := Lib.hid (fun w' hx => by
    have h := cget_any V39 _ (by rw [h39l]; decide) w' (Rd.ext h39 hx)
    rw [hnumq'] at h
    exact h.mono fun e w'' ⟨h1, h2⟩ => ⟨h1, h2 ▸ Ext.refl _⟩)
  have C42 : Hid (∀ w', Ext w w' → Calls Try.prog 105 #[V42] w' fun e w'' => e = .returned (.int .u64 (N : Int)) ∧ Ext w' w'') := Lib.hid (fun w' hx => by
    have h := cget_any V42 _ (by rw [h42l]; decide) w' (Rd.ext h42 hx)
    rw [hNq'] at h
    exact h.mono fun e w'' ⟨h1, h2⟩ => ⟨h1, h2 ▸ Ext.refl _⟩)
  have HNUM := Lib.hid hnumq
  have HNN := Lib.hid hNq
  have HV39 := Lib.hid hV39
  have HV42 := Lib.hid hV42
  clear hr39 hr42 h39 h42 h39l h42l hnumq' hNq' hV39 hV42 hnumq hNq
  rw [HNN.out] at hN HRB
  try rw [HNUM.out, HNN.out]
  go_enter Try.func68, Try.ntmps68
  go_wp2
  have hx0 : Ext w (w.alloc (.cells #[.int .u64 0, .int .i64 0, .slice none 0 0, .slice none 0 0] 68)) := (Ext.refl w).alloc _
  have hb0 : At68 (w.alloc (.cells #[.int .u64 0, .int .i64 0, .slice none 0 0, .slice none 0 0] 68)) w.heap.size z68 := heap_alloc_last w _
  generalize w.alloc (.cells #[.int .u64 0, .int .i64 0, .slice none 0 0, .slice none 0 0] 68) = W1 at *
  have HX1 := Lib.hid hx0
  have HB1 := Lib.hid hb0
  have hs1 := hb0.lt
  clear hx0 hb0
  refine wp_region_m (by kernel_rfl) (by kernel_rfl) ?_; try simp only [Act.put, List.setIfInBounds_toArray, List.set_cons_succ, List.set_cons_zero]
  refine gq rfl rfl rfl rfl (fun K hK => ?_); go_big_quiet_op; refine hK _ ?_; clear hK K
  refine gq rfl rfl rfl rfl (fun K hK => ?_); go_big_quiet_op; refine hK _ ?_; clear hK K
  refine gq rfl rfl rfl rfl (fun K hK => ?_); go_big_quiet_op; refine hK _ ?_; clear hK K
  try simp only [hd]
  refine gq rfl rfl rfl rfl (fun K hK => ?_); go_big_quiet_op; refine hK _ ?_; clear hK K
  refine gq rfl rfl rfl rfl (fun K hK => ?_); go_big_quiet_op; refine hK _ ?_; clear hK K
  refine gq rfl rfl rfl rfl (fun K hK => ?_); go_big_quiet_op; refine hK _ ?_; clear hK K
  refine gq rfl rfl rfl rfl (fun K hK => ?_); go_big_quiet_op; refine hK _ ?_; clear hK K
  refine gq rfl rfl rfl rfl (fun K hK => ?_); go_big_quiet_op; refine hK _ ?_; clear hK K
  refine gq rfl rfl rfl rfl (fun K hK => ?_); go_big_quiet_op; refine hK _ ?_; clear hK K
  refine ge rfl rfl rfl rfl V21 (exec_slice_every ei23.t (.tmp 17) (some (.tmp 20)) none rfl _ V21 rfl (some (.int .i64 (M : Int))) none rfl rfl HV21.out) ?_
  simp only [Act.put, List.setIfInBounds_toArray, List.set_cons_succ, List.set_cons_zero]
  refine gq rfl rfl rfl rfl (fun K hK => ?_); go_big_quiet_op; refine hK _ ?_; clear hK K
  refine gq rfl rfl rfl rfl (fun K hK => ?_); go_big_quiet_op; refine hK _ ?_; clear hK K
  refine gq rfl rfl rfl rfl (fun K hK => ?_); go_big_quiet_op; refine hK _ ?_; clear hK K
  refine gq rfl rfl rfl rfl (fun K hK => ?_); go_big_quiet_op; refine hK _ ?_; clear hK K
  refine ge rfl rfl rfl rfl (.slice A26 n26 c26) (exec_slice_every ei23.t (.tmp 22) none (some (.tmp 25)) rfl _ _ rfl none (some (.int .i64 (M : Int))) rfl rfl HV26.out) ?_
  simp only [Act.put, List.setIfInBounds_toArray, List.set_cons_succ, List.set_cons_zero]
  refine gv rfl rfl rfl rfl 27 rfl (RssR [O1]) RssR.ext (fun x => ⟨_, _, by go_simp <;> first | exact ⟨rfl, rfl⟩ | rfl, ⟨_, Rss.one _ _ O1 (Rd.ext HO.out (HX1.out.trans (ext_ext _ x)))⟩, (Ext.refl _).alloc _⟩) ?_
  simp only [Act.put, List.setIfInBounds_toArray, List.set_cons_succ, List.set_cons_zero]
  refine gcx rfl rfl 48 (fun xs => #[kv, V21, xs 27]) (.bool true) (fun xs => rfl) (fun xs w => by simp only [fillM, Act.put, List.setIfInBounds_toArray, List.set_cons_succ, List.set_cons_zero]; go_simp) (fun xs x hk => by obtain ⟨vs, hu⟩ := hk 27 (by decide) (by simp) _ rfl; have h := check_any O1 _ _ _ key T1 vs [O1] _ (Rd.ext HK.out (HX1.out.trans (ext_ext _ x))) (Rd.ext HT.out (HX1.out.trans (ext_ext _ x))) hu hk0 (Lib.hid (by simp)) hOl; rw [HQQ.out] at h; exact h) ?_
  simp only [Act.put, List.setIfInBounds_toArray, List.set_cons_succ, List.set_cons_zero]
  refine gq rfl rfl rfl rfl (fun K hK => ?_); go_big_quiet_op; refine hK _ ?_; clear hK K
  refine gq rfl rfl rfl rfl (fun K hK => ?_); go_big_quiet_op; refine hK _ ?_; clear hK K
  refine gq rfl rfl rfl rfl (fun K hK => ?_); go_big_quiet_op; refine hK _ ?_; clear hK K
  refine gq rfl rfl rfl rfl (fun K hK => ?_); go_big_quiet_op; refine hK _ ?_; clear hK K
  refine ge rfl rfl rfl rfl V33 (exec_slice_every ei23.t (.tmp 32) none (some (.const (.int .i64 4))) rfl _ V33 rfl none (some (.int .i64 4)) rfl rfl HV33.out) ?_
  simp only [Act.put, List.setIfInBounds_toArray, List.set_cons_succ, List.set_cons_zero]
  refine gx rfl rfl rfl rfl (Str Q1) (fun x => exec_str (.tmp 33) rfl V33 rfl Q1 _ (Rd.ext HQ.out (HX1.out.trans (ext_ext _ x)))) ?_
  simp only [Act.put, List.setIfInBounds_toArray, List.set_cons_succ, List.set_cons_zero]
  refine ge rfl rfl rfl rfl (.bool false) (fun x => by rw [exec_ne9 (.tmp 34) (.const (.string ⟨#[83, 69, 65, 76]⟩)) _ rfl Q1 magicL rfl rfl, HMQ.out]) ?_
  simp only [Act.put, List.setIfInBounds_toArray, List.set_cons_succ, List.set_cons_zero]
  refine gq rfl rfl rfl rfl (fun K hK => ?_); go_big_quiet_op; refine hK _ ?_; clear hK K
  refine gm_end_at rfl [(27, RssR [O1])] rfl (fun xs y hk => ?_)
  clear hk
  simp only [fillM, Act.put, List.setIfInBounds_toArray, List.set_cons_succ, List.set_cons_zero]
  have HX2 := Lib.hid (HX1.out.trans (ext_ext _ y))
  have HB2 := Lib.hid (HB1.out.ext (ext_ext _ y))
  have hs2 := HB2.out.lt
  have HXY := Lib.hid (ext_ext _ y)
  generalize W1.ext y = W2 at *
  go_wp2
  refine wp_region_mt 9 (by kernel_rfl) (by kernel_rfl) ?_
  simp only [List.take_succ_cons, List.take_zero]
  refine gq rfl rfl rfl rfl (fun K hK => ?_); go_big_quiet_op; refine hK _ ?_; clear hK K
  refine ge rfl rfl rfl rfl V39 (exec_slice_every ei23.t (.tmp 38) (some (.const (.int .i64 4))) (some (.const (.int .i64 12))) rfl _ V39 rfl (some (.int .i64 4)) (some (.int .i64 12)) rfl rfl HV39.out) ?_
  simp only [Act.put, List.setIfInBounds_toArray, List.set_cons_succ, List.set_cons_zero]
  refine gc rfl rfl rfl rfl 105 #[V39] (fun _ => by go_simp) (.int .u64 (num : Int)) (fun x => C39.out _ (HX2.out.trans (ext_ext _ x))) ?_
  simp only [Act.put, List.setIfInBounds_toArray, List.set_cons_succ, List.set_cons_zero]
  refine gq rfl rfl rfl rfl (fun K hK => ?_); go_big_quiet_op; refine hK _ ?_; clear hK K
  refine ge rfl rfl rfl rfl V42 (exec_slice_every ei23.t (.tmp 41) (some (.const (.int .i64 12))) (some (.const (.int .i64 16))) rfl _ V42 rfl (some (.int .i64 12)) (some (.int .i64 16)) rfl rfl HV42.out) ?_
  simp only [Act.put, List.setIfInBounds_toArray, List.set_cons_succ, List.set_cons_zero]
  refine gc rfl rfl rfl rfl 105 #[V42] (fun _ => by go_simp) (.int .u64 (N : Int)) (fun x => C42.out _ (HX2.out.trans (ext_ext _ x))) ?_
  simp only [Act.put, List.setIfInBounds_toArray, List.set_cons_succ, List.set_cons_zero]
  refine ge rfl rfl rfl rfl (.int .i64 (N : Int)) (fun _ => by go_simp; rw [IntKind.wrap_i64]; omega) ?_
  simp only [Act.put, List.setIfInBounds_toArray, List.set_cons_succ, List.set_cons_zero]
  refine ge rfl rfl rfl rfl (.agg (row68 (.int .u64 (num : Int)) (.int .i64 (N : Int)) (.slice none 0 0) (.slice none 0 0))) (fun _ => by go_simp; rfl) ?_
  simp only [Act.put, List.setIfInBounds_toArray, List.set_cons_succ, List.set_cons_zero]
  refine gv rfl rfl rfl rfl 6 rfl (NewP W2.heap.size) NewP.ext (fun x => ⟨_, _, by go_simp <;> first | exact ⟨rfl, rfl⟩ | rfl, ⟨_, rfl, heap_alloc_last _ _, (ext_ext _ x).size⟩, (Ext.refl _).alloc _⟩) ?_
  simp only [Act.put, List.setIfInBounds_toArray, List.set_cons_succ, List.set_cons_zero]
  refine gm_end_at rfl [(6, NewP W2.heap.size)] rfl (fun xs z hk => ?_)
  have h6 := hk 6 (by simp) _ rfl
  clear hk
  simp only [fillM, Act.put, List.setIfInBounds_toArray, List.set_cons_succ, List.set_cons_zero]
  simp only [List.drop_succ_cons, List.drop_zero]
  obtain ⟨g, eg, hbg, hlg⟩ := h6
  rw [eg]
  refine wpl_store68 rfl _ _ rfl g (.int .u64 (num : Int)) (.int .i64 (N : Int)) (.slice none 0 0) (.slice none 0 0) (.int .u64 0) (.int .i64 0) (.slice none 0 0) (.slice none 0 0) rfl rfl (by simp [row68, Value.oneCell']) hbg ?_
  intro W3 h3 hu3
  simp only [Act.put, List.setIfInBounds_toArray, List.set_cons_succ, List.set_cons_zero]
  have hxz := (ext_ext W2 z).upd_new hu3 hlg
  have HX3 := Lib.hid (HX2.out.trans hxz)
  have HX13 := Lib.hid (HXY.out.trans hxz)
  have HB3 := Lib.hid (HB2.out.ext hxz)
  have HG3 : Hid (At68 W3 g (row68 (.int .u64 (num : Int)) (.int .i64 (N : Int)) (.slice none 0 0) (.slice none 0 0))) := Lib.hid h3
  have hs3 := HG3.out.lt
  have cg1 : W3.cell? ⟨g, 1, none⟩ = some (.int .i64 (N : Int)) := by rw [cell_of_row _ _ _ _ _ _ h3]; rfl
  have hgw : w.heap.size < g := by omega
  clear hxz hu3 h3 hbg eg xs
  obtain ⟨wd, hwd⟩ : ∃ wd, (N + 7) / 8 = wd := ⟨_, rfl⟩
  obtain ⟨p, hp⟩ : ∃ p, (N + 15) / 16 = p := ⟨_, rfl⟩
  have hwdb : wd ≤ 600 := by omega
  have hpb : p ≤ 300 := by omega
  have hfw : fwide b = wd := by unfold fwide; rw [HNN.out, hwd]
  have hfp : fparts b = p := by unfold fparts; rw [HNN.out, hp]
  have HFW := Lib.hid hfw
  have HFP := Lib.hid hfp
  have HWD := Lib.hid hwd
  have HPP := Lib.hid hp
  clear hwd hp hfw hfp
  go_wp2_with (first | (go_at_call 104; go_must (refine (wide_nat N wd (by omega) HWD.out.symm _).mono ?_; rintro e w4 ⟨rfl, rfl⟩)) | (go_at_call 65; go_must (refine (parts_nat N p (by omega) HPP.out.symm _).mono ?_; rintro e w4 ⟨rfl, rfl⟩)))
  go_loopw [57, 7] (fun i v wr => ∃ k : Nat, k ≤ p ∧ i = .int .i64 k ∧ NewZ W3 v (widths wd k) wr) (fun i _ _ => p - (intOf i).toNat)
  case atStart => exact ⟨0, by omega, rfl, NewZ.two W3 wd⟩
  case round =>
    obtain ⟨k, hk, rfl, hnew⟩ := hrel
    have HN := Lib.hid hnew
    clear hnew
    by_cases hlt : k < p
    · go_wp2_with (at_builtin; go_must (refine wpList_append_rd ei127 rfl _ _ rfl _ rfl (HN.out.grow ((Ext.refl wr).alloc _)).own _ rfl (is_one wr 32) (ints_one [32]) (by rw [widths_length]; simp; omega) ?_; intro v4 w4 ho4 hg4 hf4; have HN4 := Lib.hid ((HN.out.grow ((Ext.refl wr).alloc _)).app ho4 hg4 hf4); clear ho4 hg4 hf4))
      go_roundw
      case rel => exact ⟨k + 1, by omega, by go_num, by rw [widths_next]; exact HN4.out⟩
      case measure => (simp [intOf] <;> omega)
    · obtain rfl : k = p := by omega
      have HXR := Lib.hid (HX3.out.trans HN.out.ext)
      have HX1R := Lib.hid (HX13.out.trans HN.out.ext)
      have HBR := Lib.hid (HB3.out.ext HN.out.ext)
      have HGR := Lib.hid (HG3.out.ext HN.out.ext)
      have HOR : Hid (Bs wr (.slice A26 n26 c26) O1) := Lib.hid (Rd.ext HO.out HXR.out)
      have HZR := Lib.hid HN.out.is
      have HOL : Hid (O1.length = M) := Lib.hid (by rw [← HO1.out]; unfold fbody; rw [List.length_take, HM.out]; omega)
      have hsul : su.length = k := by rw [← HSU.out]; unfold gsu; rw [chunk_length, HFP.out]
      have HSUL := Lib.hid hsul
      have hsum : (widths wd k).sum = O1.length := by
        have h := HLO.out
        unfold flong at h
        rw [HFW.out, HFP.out, HM.out] at h
        rw [widths_sum, HOL.out]
        omega
      have HS := Lib.hid hsum
      obtain ⟨h0, hh0⟩ : ∃ h0, b.take 16 = h0 := ⟨_, rfl⟩
      have hcw : cutL O1 (widths wd k) = h0 :: sl :: su := by
        have h := cut_widths b HLO.out
        rw [HFW.out, HFP.out, HO1.out, HSL.out, HSU.out, hh0] at h
        exact h
      have HCW := Lib.hid hcw
      have hll : (h0 :: sl :: su).length = k + 2 := by simp [HSUL.out]
      have HLL := Lib.hid hll
      have hW1g : W1.heap.size ≤ g := Nat.le_trans HXY.out.size hlg
      clear hsum hcw hh0 hll hsul
      have TA : True := trivial
      go_wp2_with (first | (refine wpl_v rfl _ (exec_slice_every ei23.t (.tmp 64) none (some (.tmp 67)) rfl _ (.slice A26 n26 c26) rfl none (some (.int .i64 (M : Int))) rfl rfl HV26.out _) ?_) | (go_at_call 106; go_must (refine (cut_ok _ _ O1 (widths wd k) _ HOR.out HZR.out (by omega) (by rw [widths_length]; omega) (widths_small wd k hwdb) HS.out).mono ?_; rintro e w5 ⟨lv, vs, rfl, hf⟩; rw [HCW.out] at hf; have hx5 := hf.ext; have hff := hf.fld; clear hf; obtain ⟨u1, hu1, hou1⟩ := hff.each 1 (by rw [HLL.out]; omega); have hou1 : OwnB w5 u1 sl := hou1; obtain ⟨A1, c1, e1, _, _, _, _⟩ := (Own.rd hou1).is; rw [e1] at hu1 hou1; have hrd := Own.rd hff.own; rw [HLL.out] at hrd; obtain ⟨V81, hV81, hr81⟩ := run_slice_every ei22 hrd (some (.int .i64 ((2 : Nat) : Int))) none 2 (k + 2) (.inr rfl) (.inl ⟨rfl, rfl⟩) (by omega) (Nat.le_refl _); obtain ⟨A81, c81, e81, _, _, _, _⟩ := hr81.is; rw [Nat.add_sub_cancel] at e81; rw [e81] at hV81; obtain ⟨bl, ol, cl, el, _, _, hbl, hcl⟩ := hrd.pos (by omega); rw [el] at hff hV81 ⊢; have cl1 := hcl 1 _ hu1; have HG5 := Lib.hid (HGR.out.ext hx5); have HB5 := Lib.hid (HBR.out.ext hx5); have cg2 : w5.cell? ⟨g, 2, none⟩ = some (.slice none 0 0) := (by rw [cell_of_row _ _ _ _ _ _ HG5.out]; rfl); have fg2 : w5.frozen? ⟨g, 2, none⟩ = false := frozen_of_row _ _ _ _ _ HG5.out; have hs5 := HG5.out.lt; have HX15 := Lib.hid (HX1R.out.trans hx5); have HFF := Lib.hid hff; have HV81 := Lib.hid hV81; have HU1 := Lib.hid hu1; clear hx5 hff hV81 hr81 hcl hrd hu1)) | (clear TA; refine wpl_v rfl _ (exec_slice_every ei22.t (.tmp 80) (some (.const (.int .i64 2))) none rfl _ (.slice A81 k c81) rfl (some (.int .i64 2)) none rfl rfl HV81.out _) ?_))
      have hup : Upd w5 (w5.setCell ⟨g, 2, none⟩ (.slice A1 sl.length c1)) g := (Upd.of_ext (Ext.refl w5) g).setCell (p := ⟨g, 2, none⟩) (.inl rfl) _
      have hg6 : At68 (w5.setCell ⟨g, 2, none⟩ (.slice A1 sl.length c1)) g (row68 (.int .u64 (num : Int)) (.int .i64 (N : Int)) (.slice A1 sl.length c1) (.slice none 0 0)) := heap_setCell_same _ _ 2 _ _ (.slice A1 sl.length c1) HG5.out
      have hf6 := HFF.out.upd hup HG5.out
      have hb6 : At68 (w5.setCell ⟨g, 2, none⟩ (.slice A1 sl.length c1)) w.heap.size z68 := (hup.old HB5.out.lt (by omega)).trans HB5.out
      have hx6 := HX15.out.upd_new hup hW1g
      have HG6 := Lib.hid hg6
      have HF6 := Lib.hid hf6
      have HB6 := Lib.hid hb6
      have HX6 := Lib.hid hx6
      clear hup hg6 hf6 hb6 hx6 cg2 fg2
      generalize w5.setCell ⟨g, 2, none⟩ (.slice A1 sl.length c1) = W6 at *
      go_loopw [83] (fun i wr => ∃ (j : Nat) (v : Value), j ≤ k ∧ i = .int .i64 j ∧ At68 wr g (row68 (.int .u64 (num : Int)) (.int .i64 (N : Int)) (.slice A1 sl.length c1) v) ∧ NewD W1 v (su.take j) wr ∧ Fld wr (.slice (some ⟨bl, ol, none⟩) (k + 2) cl) vs (h0 :: sl :: su) ∧ At68 wr w.heap.size z68) (fun i _ => k - (intOf i).toNat)
      case atStart => exact ⟨0, _, by omega, rfl, HG6.out, by simpa using NewD.nil HX6.out, HF6.out, HB6.out⟩
      case round =>
        obtain ⟨j, v, hj, rfl, hg, hd, hf, hb⟩ := hrel
        have hsr := hg.lt
        have hbr := hb.lt
        obtain ⟨Av, cv, ev, _, _, _, _⟩ := hd.dgs.rd.is
        have hcg3 : wr.cell? ⟨g, 3, none⟩ = some v := by rw [cell_of_row _ _ _ _ _ _ hg]; rfl
        have htl : (su.take j).length = j := by rw [List.length_take, HSUL.out]; omega
        rw [htl] at ev
        by_cases hlt : j < k
        · obtain ⟨u, hu, hou⟩ := hf.each (j + 2) (by rw [HLL.out]; omega)
          rw [fld_at] at hou
          have hts := take_snoc_d su j (by rw [HSUL.out]; exact hlt)
          have hdl : (su.getD j []).length = 32 := by
            have : su.getD j [] = su[j]'(by rw [HSUL.out]; exact hlt) := by simp [List.getD, HSUL.out, hlt]
            rw [this]
            exact H32.out _ (List.getElem_mem _)
          obtain ⟨d, hdd⟩ : ∃ d, su.getD j [] = d := ⟨_, rfl⟩
          rw [hdd] at hou hts hdl
          have hrd := Own.rd hf.own
          rw [HLL.out] at hrd
          obtain ⟨V', hV', hr'⟩ := run_slice_every ei22 hrd (some (.int .i64 ((2 : Nat) : Int))) none 2 (k + 2) (.inr rfl) (.inl ⟨rfl, rfl⟩) (by omega) (Nat.le_refl _)
          have heq : V' = .slice A81 k c81 := by
            have h1 := (hV' wr).symm.trans (HV81.out wr)
            injection h1
          rw [heq, Nat.add_sub_cancel] at hr'
          obtain ⟨bb, o, cap', hA, _, _, hbl', hcell⟩ := hr'.pos (by omega)
          injection hA with hA1 hA2 hA3
          subst hA1
          subst hA3
          have hvl : vs.length = k + 2 := by have h := hf.own.1; rw [HLL.out] at h; simpa using h
          have hcj := hcell j u (by rw [Nat.mul_one, List.take_of_length_le (by omega), List.getElem?_drop, Nat.add_comm]; exact hu)
          obtain ⟨bq, oq, cq, hU, _, _, hbq, hcq⟩ := (Own.rd hou).pos (by omega)
          subst hU
          have hcd : ∀ i x, d[i]? = some x → wr.cell? ⟨bq, oq + i, none⟩ = some (B8 x) := fun i x hx => hcq i (B8 x) (by rw [List.getElem?_map, hx]; rfl)
          have HG := Lib.hid hg
          have HD := Lib.hid hd
          have HF := Lib.hid hf
          have HBZ := Lib.hid hb
          have HCD := Lib.hid hcd
          have HDL := Lib.hid hdl
          have HTS := Lib.hid hts
          have HTL := Lib.hid htl
          have HEV := Lib.hid ev
          rw [ev] at hcg3
          clear hg hd hf hb hcd hdl hts htl ev hou hu hdd hrd hV' hr' heq hcell hcq hvl
          go_wp2
          refine wp_region_mt 6 (by kernel_rfl) (by kernel_rfl) ?_
          simp only [List.take_succ_cons, List.take_zero]
          refine gq rfl rfl rfl rfl (fun K hK => ?_); go_big_quiet_op; refine hK _ ?_; clear hK K
          refine gx rfl rfl rfl rfl (.slice Av j cv) (fun x => by go_simp) ?_
          simp only [Act.put, List.setIfInBounds_toArray, List.set_cons_succ, List.set_cons_zero]
          refine gq rfl rfl rfl rfl (fun K hK => ?_); go_big_quiet_op; refine hK _ ?_; clear hK K
          refine ge rfl rfl rfl rfl (.pointer (some ⟨bq, oq, none⟩)) (fun x => exec_toArr (.tmp 89) rfl _ d.length cq (by rw [HDL.out]; decide) rfl x) ?_
          simp only [Act.put, List.setIfInBounds_toArray, List.set_cons_succ, List.set_cons_zero]
          refine gx rfl rfl rfl rfl (Dig d) (fun x => exec_load27_at (.tmp 90) rfl bq oq rfl d HDL.out _ (fun i y hy => ((ext_ext wr x).cell bq (oq + i) hbq).trans (HCD.out i y hy))) ?_
          simp only [Act.put, List.setIfInBounds_toArray, List.set_cons_succ, List.set_cons_zero]
          refine gv rfl rfl rfl rfl 92 rfl (DgsR [d]) DgsR.ext (fun x => ⟨_, _, exec_build66 (.tmp 91) rfl d HDL.out rfl _, dgs_one _ d HDL.out, (Ext.refl _).alloc _⟩) ?_
          simp only [Act.put, List.setIfInBounds_toArray, List.set_cons_succ, List.set_cons_zero]
          refine gm_end_at rfl [(92, DgsR [d])] rfl (fun xs2 z2 hk => ?_)
          have h92 := hk 92 (by simp) _ rfl
          clear hk
          simp only [fillM, Act.put, List.setIfInBounds_toArray, List.set_cons_succ, List.set_cons_zero]
          simp only [List.drop_succ_cons, List.drop_zero]
          have HDZ := HD.out.grow (ext_ext wr z2)
          have hgz := HG.out.ext (ext_ext wr z2)
          have hbz := HBZ.out.ext (ext_ext wr z2)
          have hfz := HF.out.ext (ext_ext wr z2)
          have h92 : Dgs (wr.ext z2) (xs2 92) [d] := h92
          obtain ⟨A92, c92, e92, _, _, _, _⟩ := h92.rd.is
          refine wpList_append_rd ei66 rfl _ _ rfl _ rfl (by have h := HDZ.own; rw [HEV.out, HTL.out] at h; exact h) _ rfl h92.rd (dgc_one [d]) (by simp; omega) ?_
          intro v4 w4 ho4 hg4 hf4
          have hog : Own (wr.ext z2) 27 32 v (su.take j).length (dgc (su.take j)) := HDZ.own
          have hg4' : Grew (wr.ext z2) w4 v := by rw [HEV.out]; exact hg4
          have hf4' : v4.ownBlock = v.ownBlock ∨ ∀ g, v4.ownBlock = some g → (wr.ext z2).heap.size ≤ g := by rw [HEV.out]; exact hf4
          have hd4 : NewD W1 v4 (su.take j ++ [d]) w4 := HDZ.app (by intro e he; have e1 : e = d := (by simpa using he); rw [e1]; exact HDL.out) (by rw [HTL.out]; exact ho4) hg4' hf4'
          have hg5 := hgz.grew hog (by decide) hg4'
          have hb5 := hbz.grew hog (by decide) hg4'
          have hff5 := hfz.grew hog hg4'
          rw [← HTS.out] at hd4
          obtain ⟨A4, c4, e4, _, _, _, _⟩ := hd4.dgs.rd.is
          have hcg5 : w4.cell? ⟨g, 3, none⟩ = some v := by rw [cell_of_row _ _ _ _ _ _ hg5]; rfl
          have hfg5 : w4.frozen? ⟨g, 3, none⟩ = false := frozen_of_row _ _ _ _ _ hg5
          rw [e4] at hd4 ⊢
          have hup : Upd w4 (w4.setCell ⟨g, 3, none⟩ (.slice A4 (su.take (j + 1)).length c4)) g := (Upd.of_ext (Ext.refl w4) g).setCell (p := ⟨g, 3, none⟩) (.inl rfl) _
          have HR1 : Hid (At68 (w4.setCell ⟨g, 3, none⟩ (.slice A4 (su.take (j + 1)).length c4)) g (row68 (.int .u64 (num : Int)) (.int .i64 (N : Int)) (.slice A1 sl.length c1) (.slice A4 (su.take (j + 1)).length c4))) := Lib.hid (heap_setCell_same _ _ 3 _ _ _ hg5)
          have HR2 := Lib.hid (hd4.upd hup hg5 hW1g)
          have HR3 := Lib.hid (hff5.upd hup hg5)
          have HR4 : Hid (At68 (w4.setCell ⟨g, 3, none⟩ (.slice A4 (su.take (j + 1)).length c4)) w.heap.size z68) := Lib.hid ((hup.old hb5.lt (by omega)).trans hb5)
          obtain ⟨m4, hm4⟩ : ∃ m, (su.take (j + 1)).length = m := ⟨_, rfl⟩
          rw [hm4] at HR1 HR2 HR3 HR4 ⊢
          clear hup hd4 hg4 hg5 hb5 hff5 hf4 hf4' hg4' ho4 hog h92 HDZ hgz hbz hfz e4 e92 hm4
          simp only [Act.put, List.setIfInBounds_toArray, List.set_cons_succ, List.set_cons_zero]
          go_wp2
          go_roundw
          case rel => exact ⟨j + 1, _, by omega, by go_num, HR1.out, HR2.out, HR3.out, HR4.out⟩
          case measure => (simp [intOf] <;> omega)
        · obtain rfl : j = k := by omega
          rw [List.take_of_length_le (by rw [HSUL.out]; exact Nat.le_refl _)] at hd
          obtain ⟨u, hu, hou⟩ := hf.each 1 (by rw [HLL.out]; omega)
          have hue : u = .slice A1 sl.length c1 := by
            have h := hu.symm.trans HU1.out
            injection h
          rw [hue] at hou
          have hou : OwnB wr (.slice A1 sl.length c1) sl := hou
          have hR : SeR wr ⟨num, (N : Int), sl, su, .slice A1 sl.length c1, v⟩ := ⟨Own.rd hou, hd.dgs, hnum, (show (-9223372036854775808 : Int) ≤ (N : Int) by omega), (show (N : Int) ≤ 9223372036854775807 by omega)⟩
          have HR := Lib.hid (sright_any _ _ hR)
          have HG := Lib.hid hg
          have HD := Lib.hid hd
          have HBZ := Lib.hid hb
          have HOU := Lib.hid hou
          have HVE := Lib.hid ev
          clear hg hd hf hb hou hR hu hue
          rw [ev] at HG HR
          clear ev hcg3
          have TL : True := trivial
          go_wp2_with (first | (clear TL; refine wpl_load68 rfl _ rfl g rfl _ _ _ _ HG.out ?_) | (go_at_call 67; go_must (refine HR.out.mono ?_; rintro e w7 ⟨rfl, hx7⟩; simp only [HRB.out]; have HX7 := Lib.hid hx7; clear hx7)) | (refine wpl_load68 rfl _ rfl g rfl _ _ _ _ (HG.out.ext HX7.out) ?_) | (refine wpl_store68 rfl _ _ rfl w.heap.size (.int .u64 (num : Int)) (.int .i64 (N : Int)) (.slice A1 sl.length c1) (.slice Av j cv) (.int .u64 0) (.int .i64 0) (.slice none 0 0) (.slice none 0 0) rfl rfl (by simp [row68, Value.oneCell']) (HBZ.out.ext HX7.out) ?_; intro wz hz huz; have HZ := Lib.hid hz; have HUZ := Lib.hid huz; clear hz huz))
          have hou7 := Own.ext HOU.out HX7.out
          have hd7 := HD.out.grow HX7.out
          have hb7 := HBZ.out.ext HX7.out
          refine ret68t rfl w.heap.size _ _ _ _ _ rfl rfl HZ.out rfl ⟨_, _, rfl, Own.rd (Own.upd68 hou7 HUZ.out hb7 (by decide)), ?_, ((HX1.out.trans HD.out.ext).trans HX7.out).upd_new HUZ.out (Nat.le_refl _)⟩
          rw [← HVE.out]
          exact ⟨Own.rd (Own.upd68 hd7.own HUZ.out hb7 (by decide)), hd7.all⟩
/-- Whatever the bytes. -/
theorem decode_any (kv bv : Value) (key b : List UInt8) (w : World) (hB : Bs w bv b) (hK : Bs w kv key) (hk0 : key.length ≤ 2147483648) (hb : b.length ≤ 1073741824) :
    Calls Try.prog 68 #[kv, bv] w fun e w' => ∃ x : Se, ∃ c : Int, e = .returned (.tuple #[x.v, .int .i64 c]) ∧ SeR w' x ∧ Ext w w' ∧
      ((good key b = true ∧ c = 0 ∧ x.num = fnum b ∧ x.blk = (fN b : Int) ∧ x.sl = fsl b ∧ x.su = gsu b) ∨ (good key b = false ∧ c = 5 ∧ x = ⟨0, 0, [], [], .slice none 0 0, .slice none 0 0⟩)) := by
  have fail : good key b = false → Calls Try.prog 68 #[kv, bv] w (fun e w' => e = .returned (.tuple #[Z68, .int .i64 5]) ∧ Ext w w') → Calls Try.prog 68 #[kv, bv] w fun e w' => ∃ x : Se, ∃ c : Int, e = .returned (.tuple #[x.v, .int .i64 c]) ∧ SeR w' x ∧ Ext w w' ∧
      ((good key b = true ∧ c = 0 ∧ x.num = fnum b ∧ x.blk = (fN b : Int) ∧ x.sl = fsl b ∧ x.su = gsu b) ∨ (good key b = false ∧ c = 5 ∧ x = ⟨0, 0, [], [], .slice none 0 0, .slice none 0 0⟩)) := fun hg hc =>
    hc.mono fun e w' ⟨he, hx⟩ => ⟨⟨0, 0, [], [], .slice none 0 0, .slice none 0 0⟩, 5, he, ⟨Rd.nil _ _, ⟨Rd.nil _ _, by intro d hd; cases hd⟩, by decide, by decide, by decide⟩, hx, .inr ⟨hg, rfl, rfl⟩⟩
  by_cases h48 : 48 ≤ b.length
  · by_cases hlo : b.length = flong b
    · by_cases hN : fN b ≤ 4096
      · have hgi := good_iff key b h48 hN hlo
        cases hq : decide (Sha.tag key (fbody b) = ftag b) with
        | false => exact fail (by rw [hgi, hq]; rfl) (decode_tag kv bv key b w hB hK hk0 h48 hb hq)
        | true =>
          cases hm : decide (b.take 4 = magicL) with
          | false => exact fail (by rw [hgi, hm]; simp) (decode_magic kv bv key b w hB hK hk0 h48 hb hq hm)
          | true =>
            cases hr : rightB (fN b) (fsl b) (gsu b) with
            | false => exact fail (by rw [hgi, hr]; simp) (decode_wrong kv bv key b _ _ w hB hK hk0 h48 hb hq hm hN hlo rfl rfl hr)
            | true =>
              refine (decode_right kv bv key b _ _ w hB hK hk0 h48 hb hq hm hN hlo rfl rfl hr).mono fun e w' ⟨sv, gv, he, h1, h2, h3⟩ => ?_
              have hnum : fnum b ≤ 18446744073709551615 := by
                have := spell_lt ((b.take 12).drop 4)
                rw [show ((b.take 12).drop 4).length = 8 by rw [List.length_drop, List.length_take]; omega] at this
                unfold fnum
                omega
              exact ⟨⟨fnum b, (fN b : Int), fsl b, gsu b, sv, gv⟩, 0, he, ⟨h1, h2, hnum, (show (-9223372036854775808 : Int) ≤ (fN b : Int) by omega), (show (fN b : Int) ≤ 9223372036854775807 by omega)⟩, h3, .inl ⟨by rw [hgi, hq, hm, hr]; rfl, rfl, rfl, rfl, rfl, rfl⟩⟩
      · have hgf : good key b = false := by unfold good; rw [decide_eq_false hN]; rfl
        cases hq : decide (Sha.tag key (fbody b) = ftag b) with
        | false => exact fail hgf (decode_tag kv bv key b w hB hK hk0 h48 hb hq)
        | true =>
          cases hm : decide (b.take 4 = magicL) with
          | false => exact fail hgf (decode_magic kv bv key b w hB hK hk0 h48 hb hq hm)
          | true => exact fail hgf (decode_big kv bv key b w hB hK hk0 h48 hb hq hm (by omega))
    · have hgf : good key b = false := by unfold good; rw [decide_eq_false hlo]; simp
      cases hq : decide (Sha.tag key (fbody b) = ftag b) with
      | false => exact fail hgf (decode_tag kv bv key b w hB hK hk0 h48 hb hq)
      | true =>
        cases hm : decide (b.take 4 = magicL) with
        | false => exact fail hgf (decode_magic kv bv key b w hB hK hk0 h48 hb hq hm)
        | true =>
          by_cases hN : fN b ≤ 4096
          · exact fail hgf (decode_cut kv bv key b w hB hK hk0 h48 hb hq hm hN hlo)
          · exact fail hgf (decode_big kv bv key b w hB hK hk0 h48 hb hq hm (by omega))
  · have hgf : good key b = false := by unfold good; rw [decide_eq_false (fun h : b.length = flong b => h48 (by rw [h]; unfold flong; omega))]; simp
    exact fail hgf (decode_short kv bv b w hB (by omega))
end Go.Proofs.Ytapojpjmeadabaa
end

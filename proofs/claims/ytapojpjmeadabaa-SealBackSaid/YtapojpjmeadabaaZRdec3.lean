/- Rdec3: several texts in one. -/
import Derived.Test.YtapojpjmeadabaaZRdec1
section
/- sacristanref08.Decode, whatever the bytes. -/
namespace Go.Proofs.Ytapojpjmeadabaa
open Go.RowKit
set_option linter.unusedVariables false
set_option linter.unusedSimpArgs false
attribute [local go_sem] lt_ext cell?_ext frozen?_ext shape?_ext

set_option maxRecDepth 100000 in
set_option maxHeartbeats 8000000 in
theorem rdecode_other (kv bv : Value) (key b sl : List UInt8) (su : List (List UInt8)) (w : World) (hB : Bs w bv b) (hK : Bs w kv key) (hk0 : key.length ≤ 2147483648) (h16 : 16 ≤ b.length) (hb : b.length ≤ 1073741824) (hN : fN b ≤ 4096) (hlo : b.length = flong b)
    (hsl : fsl b = sl) (hsu : gsu b = su) (hrb : rightB (fN b) sl su = true) (hcb : decide (encS key (fnum b) (fN b) sl su = b) = false) :
    Calls Try.prog 70 #[kv, bv] w fun e w' => e = .returned (.tuple #[Z68, .int .i64 5]) ∧ Ext w w' := by
  have HLO := Lib.hid hlo
  obtain ⟨Ab, cb, rfl, _, _, _, _⟩ := hB.is
  obtain ⟨V39, hV39, hr39⟩ := run_slice_every ei23 hB (some (.int .i64 ((4 : Nat) : Int))) (some (.int .i64 ((12 : Nat) : Int))) 4 12 (.inr rfl) (.inr rfl) (by decide) (by omega)
  obtain ⟨V42, hV42, hr42⟩ := run_slice_every ei23 hB (some (.int .i64 ((12 : Nat) : Int))) (some (.int .i64 ((16 : Nat) : Int))) 12 16 (.inr rfl) (.inr rfl) (by decide) (by omega)
  have h39l : ((b.take 12).drop 4).length = 8 := by rw [List.length_drop, List.length_take]; omega
  have h42l : ((b.take 16).drop 12).length = 4 := by rw [List.length_drop, List.length_take]; omega
  have h39 : Bs w V39 ((b.take 12).drop 4) := Bs.of_rd (n := 12 - 4) (l := (b.take 12).drop 4) (by have := hr39; rw [Bs.sub_list] at this; exact this) (by rw [h39l]) rfl
  have h42 : Bs w V42 ((b.take 16).drop 12) := Bs.of_rd (n := 16 - 12) (l := (b.take 16).drop 12) (by have := hr42; rw [Bs.sub_list] at this; exact this) (by rw [h42l]) rfl
  have hnum : spell ((b.take 12).drop 4) ≤ 18446744073709551615 := by have := spell_lt ((b.take 12).drop 4); rw [h39l] at this; omega
  have hNb : spell ((b.take 16).drop 12) ≤ 4294967295 := by have := spell_lt ((b.take 16).drop 12); rw [h42l] at this; omega
  obtain ⟨num, hnumq⟩ : ∃ num, fnum b = num := ⟨_, rfl⟩
  obtain ⟨N, hNq⟩ : ∃ N, fN b = N := ⟨_, rfl⟩
  have hnumq' : spell ((b.take 12).drop 4) = num := hnumq
  have hNq' : spell ((b.take 16).drop 12) = N := hNq
  rw [hnumq'] at hnum
  rw [hNq'] at hNb
  have C39 : Hid (∀ w', Ext w w' → Calls Try.prog 109 #[V39] w' fun e w'' => e = .returned (.int .u64 (num : Int)) ∧ Ext w' w'') := Lib.hid (fun w' hx => by
    have h := get_any V39 _ (by rw [h39l]; decide) w' (Rd.ext h39 hx)
    rw [hnumq'] at h
    exact h.mono fun e w'' ⟨h1, h2⟩ => ⟨h1, h2 ▸ Ext.refl _⟩)
  have C42 : Hid (∀ w', Ext w w' → Calls Try.prog 109 #[V42] w' fun e w'' => e = .returned (.int .u64 (N : Int)) ∧ Ext w' w'') := Lib.hid (fun w' hx => by
    have h := get_any V42 _ (by rw [h42l]; decide) w' (Rd.ext h42 hx)
    rw [hNq'] at h
    exact h.mono fun e w'' ⟨h1, h2⟩ => ⟨h1, h2 ▸ Ext.refl _⟩)
  have HNUM := Lib.hid hnumq
  have HNN := Lib.hid hNq
  have HV39 := Lib.hid hV39
  have HV42 := Lib.hid hV42
  have HBB : Hid (Bs w (.slice Ab b.length cb) b) := Lib.hid hB
  obtain ⟨wd, hwd⟩ : ∃ wd, (N + 7) / 8 = wd := ⟨_, rfl⟩
  obtain ⟨p, hp⟩ : ∃ p, (N + 15) / 16 = p := ⟨_, rfl⟩
  have hfw : fwide b = wd := by unfold fwide; rw [HNN.out, hwd]
  have hfp : fparts b = p := by unfold fparts; rw [HNN.out, hp]
  have HFW := Lib.hid hfw
  have HFP := Lib.hid hfp
  have HWD := Lib.hid hwd
  have HPP := Lib.hid hp
  have hNi : IntKind.i64.wrap (N : Int) = (N : Int) := by rw [IntKind.wrap_i64]; omega
  clear hr39 hr42 h39 h42 h39l h42l hnumq' hNq' hV39 hV42 hnumq hNq hB hwd hp hfw hfp
  have HSL := Lib.hid hsl
  have HSU := Lib.hid hsu
  have H32 : Hid (∀ d ∈ su, d.length = 32) := Lib.hid (by rw [← hsu]; exact gsu_all b hlo)
  have HRB := Lib.hid hrb
  rw [HNN.out] at hN HRB
  try rw [HNUM.out, HNN.out]
  have hloe : b.length = 48 + wd + 32 * p := by have := hlo; unfold flong at this; rw [HFW.out, HFP.out] at this; exact this
  have hlo1 : b.length ≤ 48 + wd + 32 * p := by omega
  have hlo2 : 48 + wd + 32 * p ≤ b.length := by omega
  clear hlo hloe
  have hwi : ((N : Int) + 7) / 8 = (wd : Int) := by have := HWD.out; omega
  have hlq : ((b.length : Int) != 16 + (wd : Int) + 32 * (p : Int) + 32) = false := by
    have : (b.length : Int) = 16 + (wd : Int) + 32 * (p : Int) + 32 := by omega
    simpa using this
  have hpb : p ≤ 300 := by have := HPP.out; omega
  have hwb : wd ≤ 600 := by have := HWD.out; omega
  have hN1 : ¬ (4096 < (N : Int)) := by omega
  obtain ⟨V52, hV52, hr52⟩ := run_slice_every ei23 HBB.out (some (.int .i64 ((16 : Nat) : Int))) (some (.int .i64 ((16 + wd : Nat) : Int))) 16 (16 + wd) (.inr rfl) (.inr rfl) (by omega) (by omega)
  rw [show ((16 + wd : Nat) : Int) = 16 + (wd : Int) by omega] at hV52
  have h52 : Bs w V52 sl := Bs.of_rd (n := 16 + wd - 16) (l := (b.take (16 + wd)).drop 16) (by have := hr52; rw [Bs.sub_list] at this; exact this) (by rw [← HSL.out]; unfold fsl; rw [HFW.out, List.length_drop, List.length_take]; omega) (by rw [← HSL.out]; unfold fsl; rw [HFW.out])
  have hsll : sl.length = wd := by rw [← HSL.out]; unfold fsl; rw [HFW.out, List.length_drop, List.length_take]; omega
  have hsul : su.length = p := by rw [← HSU.out]; unfold gsu; rw [chunk_length, HFP.out]
  have HGET : Hid (∀ i k, i < p → k < 32 → (su.getD i []).getD k 0 = b.getD (16 + wd + 32 * i + k) 0) := Lib.hid (fun i k hi hk => by have := gsu_get b HLO.out i k (by rw [HFP.out]; exact hi) hk; rw [HSU.out, HFW.out] at this; exact this)
  have H52 := Lib.hid h52
  have HV52 := Lib.hid hV52
  have HSLL := Lib.hid hsll
  have HSUL := Lib.hid hsul
  have TA : True := trivial
  clear hsl hsu hrb hr52 h52 hV52 hsul hsll
  go_enter Try.func70, Try.ntmps70
  have hb0 : At68 (w.alloc (.cells #[.int .u64 0, .int .i64 0, .slice none 0 0, .slice none 0 0] 68)) w.heap.size z68 := heap_alloc_last w _
  have HB1 := Lib.hid hb0
  have HX1 : Hid (Ext w (w.alloc (.cells #[.int .u64 0, .int .i64 0, .slice none 0 0, .slice none 0 0] 68))) := Lib.hid ((Ext.refl w).alloc _)
  clear hb0
  go_wp2_with (first | (refine wpl_v rfl _ (exec_slice_every ei23.t (.tmp 18) (some (.const (.int .i64 12))) (some (.const (.int .i64 16))) rfl _ V42 rfl (some (.int .i64 12)) (some (.int .i64 16)) rfl rfl HV42.out _) ?_) | (go_at_call 109; clear TA; go_must (refine (C42.out _ HX1.out).mono ?_; rintro e w2 ⟨rfl, hx2⟩; have HX2 := Lib.hid (HX1.out.trans hx2); have HB2 := Lib.hid (HB1.out.ext hx2); clear hx2; have TB : True := trivial)) | (go_at_call 73; go_must (refine (rparts_nat N p (by omega) HPP.out.symm _).mono ?_; rintro e w3 ⟨rfl, rfl⟩)) | (refine wpl_v rfl _ (exec_slice_every ei23.t (.tmp 39) (some (.const (.int .i64 4))) (some (.const (.int .i64 12))) rfl _ V39 rfl (some (.int .i64 4)) (some (.int .i64 12)) rfl rfl HV39.out _) ?_) | (go_at_call 109; clear TB; go_must (refine (C39.out _ HX2.out).mono ?_; rintro e w3 ⟨rfl, hx3⟩; have HX3 := Lib.hid (HX2.out.trans hx3); have HB3 := Lib.hid (HB2.out.ext hx3); clear hx3)) | (refine wpl_store68 rfl _ _ rfl w3.heap.size (.int .u64 (num : Int)) (.int .i64 (N : Int)) (.slice none 0 0) (.slice none 0 0) (.int .u64 0) (.int .i64 0) (.slice none 0 0) (.slice none 0 0) rfl rfl (by simp [row68, Value.oneCell']) (heap_alloc_last w3 _) ?_; intro w4 h4 hu4; have HG4 : Hid (At68 w4 w3.heap.size (row68 (.int .u64 (num : Int)) (.int .i64 (N : Int)) (.slice none 0 0) (.slice none 0 0))) := Lib.hid h4; have hx4 : Ext w3 w4 := ((Ext.refl w3).alloc _).upd_new hu4 (Nat.le_refl _); have HX4 := Lib.hid hx4; clear h4 hu4 hx4))
  obtain ⟨g, hgq⟩ : ∃ g, w3.heap.size = g := ⟨_, rfl⟩
  have hlg : w3.heap.size ≤ g := Nat.le_of_eq hgq
  rw [hgq] at HG4 ⊢
  have hs3 := HB3.out.lt
  have hs4 := HG4.out.lt
  have hcg2 : w4.cell? ⟨g, 2, none⟩ = some (.slice none 0 0) := by rw [cell_of_row _ _ _ _ _ _ HG4.out]; rfl
  clear hgq HB2 HX2 HB1 HX1
  refine wp_region_mt 5 (by kernel_rfl) (by kernel_rfl) ?_
  simp only [List.take_succ_cons, List.take_zero]
  refine gq rfl rfl rfl rfl (fun K hK => ?_); go_big_quiet_op; refine hK _ ?_; clear hK K
  refine gx rfl rfl rfl rfl (.slice none 0 0) (fun x => by go_simp) ?_
  simp only [Act.put, List.setIfInBounds_toArray, List.set_cons_succ, List.set_cons_zero]
  refine gq rfl rfl rfl rfl (fun K hK => ?_); go_big_quiet_op; refine hK _ ?_; clear hK K
  refine gq rfl rfl rfl rfl (fun K hK => ?_); go_big_quiet_op; refine hK _ ?_; clear hK K
  refine ge rfl rfl rfl rfl V52 (exec_slice_every ei23.t (.tmp 50) (some (.const (.int .i64 16))) (some (.tmp 51)) rfl _ V52 rfl (some (.int .i64 16)) (some (.int .i64 (16 + (wd : Int)))) rfl rfl HV52.out) ?_
  simp only [Act.put, List.setIfInBounds_toArray, List.set_cons_succ, List.set_cons_zero]
  refine gm_end_at rfl [] rfl (fun xs z hk => ?_)
  clear hk
  simp only [fillM, Act.put, List.setIfInBounds_toArray, List.set_cons_succ, List.set_cons_zero]
  simp only [List.drop_succ_cons, List.drop_zero]
  refine wpList_append_bs rfl _ _ rfl (.slice none 0 0) rfl (l := []) (Own.nil _ _ _) _ rfl (Rd.ext H52.out (HX3.out.trans (HX4.out.trans (ext_ext _ z)))) (by rw [HSLL.out]; simp; omega) ?_
  intro v5 w5 ho5 hg5 hf5
  have hx5 : Ext w4 w5 := (ext_ext w4 z).trans (Grew.ext_nil hg5)
  rw [List.nil_append] at ho5
  have hgb5 := HG4.out.ext hx5
  obtain ⟨A5, c5, e5, _, _, _, _⟩ := (Own.rd ho5).is
  rw [e5] at ho5 ⊢
  have hup : Upd w5 (w5.setCell ⟨g, 2, none⟩ (.slice A5 sl.length c5)) g := (Upd.of_ext (Ext.refl w5) g).setCell (p := ⟨g, 2, none⟩) (.inl rfl) _
  have hcg5 : w5.cell? ⟨g, 2, none⟩ = some (.slice none 0 0) := by rw [cell_of_row _ _ _ _ _ _ hgb5]; rfl
  have hfg5 : w5.frozen? ⟨g, 2, none⟩ = false := frozen_of_row _ _ _ _ _ hgb5
  have HG6 : Hid (At68 (w5.setCell ⟨g, 2, none⟩ (.slice A5 sl.length c5)) g (row68 (.int .u64 (num : Int)) (.int .i64 (N : Int)) (.slice A5 sl.length c5) (.slice none 0 0))) := Lib.hid (heap_setCell_same _ _ 2 _ _ (.slice A5 sl.length c5) hgb5)
  have HO6 := Lib.hid (Own.upd68 ho5 hup hgb5 (by decide))
  have HX6 := Lib.hid ((HX4.out.trans hx5).upd_new hup hlg)
  have hs5 := hgb5.lt
  clear hup hx5 ho5 hg5 hf5 hgb5 e5 hcg2
  simp only [Act.put, List.setIfInBounds_toArray, List.set_cons_succ, List.set_cons_zero]
  go_wp2
  generalize w5.setCell ⟨g, 2, none⟩ (.slice A5 sl.length c5) = W6 at *
  clear hcg5 hfg5 hs5 hwi hlq
  go_loopw [9, 8] (fun i at' wr => ∃ (j : Nat) (v : Value), j ≤ p ∧ i = .int .i64 j ∧ at' = .int .i64 ((16 + wd + 32 * j : Nat) : Int) ∧ At68 wr g (row68 (.int .u64 (num : Int)) (.int .i64 (N : Int)) (.slice A5 sl.length c5) v) ∧ NewD w3 v (su.take j) wr ∧ OwnB wr (.slice A5 sl.length c5) sl) (fun i _ _ => p - (intOf i).toNat)
  case atStart => exact ⟨0, _, by omega, rfl, congrArg (Value.int .i64) (by omega), HG6.out, by simpa using NewD.nil HX6.out, HO6.out⟩
  case round =>
    obtain ⟨j, v, hj, rfl, rfl, hg, hd, ho⟩ := hrel
    obtain ⟨wo, hwo⟩ : ∃ wo, wo = wr := ⟨_, rfl⟩
    subst hwo
    have hsr := hg.lt
    obtain ⟨Av, cv, ev, _, _, _, _⟩ := hd.dgs.rd.is
    have htl : (su.take j).length = j := by rw [List.length_take, HSUL.out]; omega
    rw [htl] at ev
    have HEV := Lib.hid ev
    have HTL := Lib.hid htl
    have hxo := hd.ext
    by_cases hlt : j < p
    · have hts := take_snoc_d su j (by rw [HSUL.out]; exact hlt)
      have hdl : (su.getD j []).length = 32 := by
        have : su.getD j [] = su[j]'(by rw [HSUL.out]; exact hlt) := by simp [List.getD, HSUL.out, hlt]
        rw [this]
        exact H32.out _ (List.getElem_mem _)
      have hget := HGET.out j
      obtain ⟨X, hX⟩ : ∃ X, 16 + wd + 32 * j = X := ⟨_, rfl⟩
      have hXb : X + 32 ≤ b.length := by omega
      have hX2 : 16 + wd + 32 * (j + 1) = X + 32 := by omega
      obtain ⟨d, hdd⟩ : ∃ d, su.getD j [] = d := ⟨_, rfl⟩
      rw [hX, hdd] at hget
      rw [hX]
      rw [hdd] at hts hdl
      have HGK : Hid (∀ k, k < 32 → d.getD k 0 = b.getD (X + k) 0) := Lib.hid (fun k hk => hget k hlt hk)
      obtain ⟨bb, ob, cb', hA, _, _, hbl, hcell⟩ := Bs.pos HBB.out (by omega)
      injection hA with hA1 hA2 hA3
      subst hA1
      subst hA3
      have HCELL : Hid (∀ w', Ext w w' → ∀ k, k < 32 → w'.cell? ⟨bb, ob + (X + k), none⟩ = some (B8 (d.getD k 0)) ∧ bb < w'.heap.size) := Lib.hid (fun w' hx k hk => ⟨by rw [HGK.out k hk]; exact (hx.cell bb (ob + (X + k)) hbl).trans (hcell (X + k) (by omega)), Nat.lt_of_lt_of_le hbl hx.size⟩)
      have HG := Lib.hid hg
      have HD := Lib.hid hd
      have HO := Lib.hid ho
      have HDL := Lib.hid hdl
      have HTS := Lib.hid hts
      have HX2 := Lib.hid hX2
      obtain ⟨D, hDq⟩ : ∃ D, wo.heap.size = D := ⟨_, rfl⟩
      have hgD : g < D := by omega
      have HDQ := Lib.hid hDq
      have HXO := Lib.hid hxo
      clear hg hd ho hdl hts hX2 hget hcell hX hdd htl ev hxo
      go_wp2_with (first | (go_at_call 73; go_must (refine (rparts_nat N p (by omega) HPP.out.symm _).mono ?_; rintro e wp ⟨rfl, rfl⟩)) | (refine wpl_exec rfl (Dig (Sha.zeros 32)) (exec_build27 rfl _) ?_) | (refine wpl_alloc_agg rfl 27 rfl _ zero27.1 ?_) | (refine wpl_store27 rfl _ _ rfl wo.heap.size (Sha.zeros 32) (Sha.zeros 32) rfl rfl (by simp [Sha.zeros]) (by simp [Sha.zeros]) (heap_alloc_last wo _) ?_; intro wa ha hua; have HXA : Hid (Ext wo wa) := Lib.hid (((Ext.refl wo).alloc _).upd_new hua (Nat.le_refl _)); rw [hDq] at ha ⊢; have HA : Hid (Blk wa D 27 (Sha.zeros 32)) := Lib.hid ha; clear ha hua))
      go_loopw [11] (fun q wr => ∃ k : Nat, k ≤ 32 ∧ q = .int .i64 k ∧ Blk wr D 27 (d.take k ++ Sha.zeros (32 - k)) ∧ Ext wo wr) (fun q _ => 32 - (intOf q).toNat)
      case atStart => exact ⟨0, by omega, rfl, by simpa using HA.out, HXA.out⟩
      case round =>
        obtain ⟨k, hk, rfl, hblk, hxk⟩ := hrel
        have hsD := hblk.lt
        have HBK := Lib.hid hblk
        have HXK := Lib.hid hxk
        have HTK := Lib.hid (fill_next d k HDL.out)
        have hll : (d.take k ++ Sha.zeros (32 - k)).length = 32 := by have := HDL.out; simp [Sha.zeros]; omega
        have HLL := Lib.hid hll
        obtain ⟨F, hF⟩ : ∃ F, d.take k ++ Sha.zeros (32 - k) = F := ⟨_, rfl⟩
        by_cases hk2 : k < 32
        · obtain ⟨hck, hbw⟩ := HCELL.out wr ((HX3.out.trans HXO.out).trans hxk) k hk2
          rw [hF] at HBK HTK HLL
          have hcD := HBK.out.cell k (by rw [HLL.out]; exact hk2)
          have hfD := HBK.out.frozen k
          obtain ⟨x, hx⟩ : ∃ x, d.getD k 0 = x := ⟨_, rfl⟩
          rw [hx] at hck HTK
          clear hblk hxk hll hF hx
          go_wp2
          go_roundw
          case rel => exact ⟨k + 1, by omega, by go_num, by rw [← HTK.out hk2]; exact Blk.set HBK.out k x, Ext.setCell_new HXK.out trivial (Nat.le_of_eq HDQ.out)⟩
          case measure => (simp [intOf] <;> omega)
        · obtain rfl : k = 32 := by omega
          have hF2 : F = d := by rw [← hF, List.take_of_length_le (by rw [HDL.out]; exact Nat.le_refl _)]; simp [Sha.zeros]
          rw [hF, hF2] at HBK
          have HGW := Lib.hid (HG.out.ext hxk)
          have HDW := Lib.hid (HD.out.grow hxk)
          have HOW := Lib.hid (Own.ext HO.out hxk)
          have hcg3 : wr.cell? ⟨g, 3, none⟩ = some (.slice Av j cv) := by rw [← HEV.out, cell_of_row _ _ _ _ _ _ HGW.out]; rfl
          have hsw := HGW.out.lt
          clear hblk hxk hll hF hF2
          go_wp2_with (first | (refine wpl_load27 rfl _ rfl D rfl d HDL.out HBK.out ?_) | (refine wpl_vw rfl _ _ (exec_build66 (.tmp 76) rfl d HDL.out rfl _) ?_) | (at_builtin; go_must (refine wpList_append_rd ei66 rfl _ _ rfl _ rfl (by have h := (HDW.out.grow ((Ext.refl wr).alloc (.cells (row8 d) 27))).own; rw [HEV.out, HTL.out] at h; exact h) _ rfl (dgs_one wr d HDL.out).rd (dgc_one [d]) (by simp; omega) ?_; intro v4 w4 ho4 hg4 hf4; have hdz := HDW.out.grow ((Ext.refl wr).alloc (.cells (row8 d) 27)); have hog : Own (wr.alloc (.cells (row8 d) 27)) 27 32 v (su.take j).length (dgc (su.take j)) := hdz.own; have hg4' : Grew (wr.alloc (.cells (row8 d) 27)) w4 v := (by rw [HEV.out]; exact hg4); have hd4 : NewD w3 v4 (su.take j ++ [d]) w4 := hdz.app (fun e he => by have e1 : e = d := (by simpa using he); rw [e1]; exact HDL.out) (by rw [HTL.out]; exact ho4) hg4' (by rw [HEV.out]; exact hf4); have hx8 : Ext wr (wr.alloc (.cells (row8 d) 27)) := (Ext.refl wr).alloc _; have hg5 := (HGW.out.ext hx8).grew hog (by decide) hg4'; have ho5 := Own.other (Own.ext HOW.out hx8) hog (by decide) hg4'; rw [← HTS.out] at hd4; obtain ⟨A4, c4, e4, _, _, _, _⟩ := hd4.dgs.rd.is; have hcg5 : w4.cell? ⟨g, 3, none⟩ = some v := (by rw [cell_of_row _ _ _ _ _ _ hg5]; rfl); have hfg5 : w4.frozen? ⟨g, 3, none⟩ = false := frozen_of_row _ _ _ _ _ hg5; have hs5 := hg5.lt; rw [e4] at hd4 ⊢; obtain ⟨m4, hm4⟩ : ∃ m, (su.take (j + 1)).length = m := ⟨_, rfl⟩; rw [hm4] at hd4 ⊢; have HD4 := Lib.hid hd4; have HG5 := Lib.hid hg5; have HO5 := Lib.hid ho5; clear hd4 hg5 ho5 hm4 e4 hog hg4' hdz hf4 hg4 ho4 hx8)))
          have hup : Upd w4 (w4.setCell ⟨g, 3, none⟩ (.slice A4 m4 c4)) g := (Upd.of_ext (Ext.refl w4) g).setCell (p := ⟨g, 3, none⟩) (.inl rfl) _
          go_roundw
          case rel => exact ⟨j + 1, _, by omega, by go_num, congrArg (Value.int .i64) (by have := HX2.out; omega), heap_setCell_same _ _ 3 _ _ (.slice A4 m4 c4) HG5.out, HD4.out.upd hup HG5.out hlg, Own.upd68 HO5.out hup HG5.out (by decide)⟩
          case measure => (simp [intOf] <;> omega)
    · obtain rfl : j = p := by omega
      rw [List.take_of_length_le (by rw [HSUL.out]; exact Nat.le_refl _)] at hd
      have hR : SeR wo ⟨num, (N : Int), sl, su, .slice A5 sl.length c5, .slice Av j cv⟩ := ⟨Own.rd ho, by rw [← HEV.out]; exact hd.dgs, hnum, (show (-9223372036854775808 : Int) ≤ (N : Int) by omega), (show (N : Int) ≤ 9223372036854775807 by omega)⟩
      have HR := Lib.hid hR
      have HG : Hid (At68 wo g (row68 (.int .u64 (num : Int)) (.int .i64 (N : Int)) (.slice A5 sl.length c5) (.slice Av j cv))) := Lib.hid (by rw [← HEV.out]; exact hg)
      have HD := Lib.hid hd
      have HO := Lib.hid ho
      have HXO := Lib.hid hxo
      have HBO := Lib.hid (HB3.out.ext hxo)
      clear hg hd ho hR ev hxo htl
      rw [HNUM.out, HNN.out] at hcb
      have TM : True := trivial
      have HCC := Lib.hid (rencode_any kv _ key wo (Rd.ext hK (HX3.out.trans HXO.out)) hk0 HR.out HRB.out)
      obtain ⟨C, hC⟩ : ∃ C, encS key num N sl su = C := ⟨_, rfl⟩
      have HCQ : Hid ((!decide (C = b)) = true) := Lib.hid (by rw [← hC, hcb]; rfl)
      have HC := Lib.hid hC
      clear hC hcb hK
      go_wp2_with (first | (go_at_call 73; go_must (refine (rparts_nat N j (by omega) HPP.out.symm _).mono ?_; rintro e wp ⟨rfl, rfl⟩)) | (clear TM; refine wpl_load68 rfl _ rfl g rfl _ _ _ _ HG.out ?_) | (go_at_call 74; go_must (refine HCC.out.mono ?_; rintro e w7 ⟨v7, rfl, hb7, hx7⟩; have hb7 : Bs w7 v7 (encS key num N sl su) := hb7; rw [HC.out] at hb7; have HX7 := Lib.hid hx7; have HB7 := Lib.hid hb7; clear hx7 hb7)) | (refine wpl_v ?_ _ (exec_str (.tmp 91) rfl v7 rfl C _ HB7.out) ?_; rfl) | (refine wpl_v ?_ _ (exec_str (.tmp 93) rfl (.slice Ab b.length cb) rfl b _ (Rd.ext HBB.out ((HX3.out.trans HXO.out).trans HX7.out))) ?_; rfl; go_must (refine wpl_v rfl _ (exec_ne9 (.tmp 92) (.tmp 94) _ rfl C b rfl rfl _) ?_; rw [HCQ.out])) | (refine wpl_store68 rfl _ _ rfl w.heap.size (.int .u64 0) (.int .i64 0) (.slice none 0 0) (.slice none 0 0) (.int .u64 0) (.int .i64 0) (.slice none 0 0) (.slice none 0 0) rfl rfl (by simp [row68, Value.oneCell']) (HBO.out.ext HX7.out) ?_; intro wz hz huz; have HZ := Lib.hid hz; have HUZ := Lib.hid huz; clear hz huz))
      exact ret68t rfl w.heap.size _ _ _ _ _ rfl rfl HZ.out rfl ⟨rfl, ((HX3.out.trans HXO.out).trans HX7.out).upd_new HUZ.out (Nat.le_refl _)⟩
set_option maxRecDepth 100000 in
set_option maxHeartbeats 8000000 in
theorem rdecode_right (kv bv : Value) (key b sl : List UInt8) (su : List (List UInt8)) (w : World) (hB : Bs w bv b) (hK : Bs w kv key) (hk0 : key.length ≤ 2147483648) (h16 : 16 ≤ b.length) (hb : b.length ≤ 1073741824) (hN : fN b ≤ 4096) (hlo : b.length = flong b)
    (hsl : fsl b = sl) (hsu : gsu b = su) (hrb : rightB (fN b) sl su = true) (hcb : decide (encS key (fnum b) (fN b) sl su = b) = true) :
    Calls Try.prog 70 #[kv, bv] w fun e w' => ∃ sv gv, e = .returned (.tuple #[.agg #[.int .u64 (fnum b : Int), .int .i64 (fN b : Int), sv, gv], .int .i64 0]) ∧ Bs w' sv sl ∧ Dgs w' gv su ∧ Ext w w' := by
  have HLO := Lib.hid hlo
  obtain ⟨Ab, cb, rfl, _, _, _, _⟩ := hB.is
  obtain ⟨V39, hV39, hr39⟩ := run_slice_every ei23 hB (some (.int .i64 ((4 : Nat) : Int))) (some (.int .i64 ((12 : Nat) : Int))) 4 12 (.inr rfl) (.inr rfl) (by decide) (by omega)
  obtain ⟨V42, hV42, hr42⟩ := run_slice_every ei23 hB (some (.int .i64 ((12 : Nat) : Int))) (some (.int .i64 ((16 : Nat) : Int))) 12 16 (.inr rfl) (.inr rfl) (by decide) (by omega)
  have h39l : ((b.take 12).drop 4).length = 8 := by rw [List.length_drop, List.length_take]; omega
  have h42l : ((b.take 16).drop 12).length = 4 := by rw [List.length_drop, List.length_take]; omega
  have h39 : Bs w V39 ((b.take 12).drop 4) := Bs.of_rd (n := 12 - 4) (l := (b.take 12).drop 4) (by have := hr39; rw [Bs.sub_list] at this; exact this) (by rw [h39l]) rfl
  have h42 : Bs w V42 ((b.take 16).drop 12) := Bs.of_rd (n := 16 - 12) (l := (b.take 16).drop 12) (by have := hr42; rw [Bs.sub_list] at this; exact this) (by rw [h42l]) rfl
  have hnum : spell ((b.take 12).drop 4) ≤ 18446744073709551615 := by have := spell_lt ((b.take 12).drop 4); rw [h39l] at this; omega
  have hNb : spell ((b.take 16).drop 12) ≤ 4294967295 := by have := spell_lt ((b.take 16).drop 12); rw [h42l] at this; omega
  obtain ⟨num, hnumq⟩ : ∃ num, fnum b = num := ⟨_, rfl⟩
  obtain ⟨N, hNq⟩ : ∃ N, fN b = N := ⟨_, rfl⟩
  have hnumq' : spell ((b.take 12).drop 4) = num := hnumq
  have hNq' : spell ((b.take 16).drop 12) = N := hNq
  rw [hnumq'] at hnum
  rw [hNq'] at hNb
  have C39 : Hid (∀ w', Ext w w' → Calls Try.prog 109 #[V39] w' fun e w'' => e = .returned (.int .u64 (num : Int)) ∧ Ext w' w'') := Lib.hid (fun w' hx => by
    have h := get_any V39 _ (by rw [h39l]; decide) w' (Rd.ext h39 hx)
    rw [hnumq'] at h
    exact h.mono fun e w'' ⟨h1, h2⟩ => ⟨h1, h2 ▸ Ext.refl _⟩)
  have C42 : Hid (∀ w', Ext w w' → Calls Try.prog 109 #[V42] w' fun e w'' => e = .returned (.int .u64 (N : Int)) ∧ Ext w' w'') := Lib.hid (fun w' hx => by
    have h := get_any V42 _ (by rw [h42l]; decide) w' (Rd.ext h42 hx)
    rw [hNq'] at h
    exact h.mono fun e w'' ⟨h1, h2⟩ => ⟨h1, h2 ▸ Ext.refl _⟩)
  have HNUM := Lib.hid hnumq
  have HNN := Lib.hid hNq
  have HV39 := Lib.hid hV39
  have HV42 := Lib.hid hV42
  have HBB : Hid (Bs w (.slice Ab b.length cb) b) := Lib.hid hB
  obtain ⟨wd, hwd⟩ : ∃ wd, (N + 7) / 8 = wd := ⟨_, rfl⟩
  obtain ⟨p, hp⟩ : ∃ p, (N + 15) / 16 = p := ⟨_, rfl⟩
  have hfw : fwide b = wd := by unfold fwide; rw [HNN.out, hwd]
  have hfp : fparts b = p := by unfold fparts; rw [HNN.out, hp]
  have HFW := Lib.hid hfw
  have HFP := Lib.hid hfp
  have HWD := Lib.hid hwd
  have HPP := Lib.hid hp
  have hNi : IntKind.i64.wrap (N : Int) = (N : Int) := by rw [IntKind.wrap_i64]; omega
  clear hr39 hr42 h39 h42 h39l h42l hnumq' hNq' hV39 hV42 hnumq hNq hB hwd hp hfw hfp
  have HSL := Lib.hid hsl
  have HSU := Lib.hid hsu
  have H32 : Hid (∀ d ∈ su, d.length = 32) := Lib.hid (by rw [← hsu]; exact gsu_all b hlo)
  have HRB := Lib.hid hrb
  rw [HNN.out] at hN HRB
  try rw [HNUM.out, HNN.out]
  have hloe : b.length = 48 + wd + 32 * p := by have := hlo; unfold flong at this; rw [HFW.out, HFP.out] at this; exact this
  have hlo1 : b.length ≤ 48 + wd + 32 * p := by omega
  have hlo2 : 48 + wd + 32 * p ≤ b.length := by omega
  clear hlo hloe
  have hwi : ((N : Int) + 7) / 8 = (wd : Int) := by have := HWD.out; omega
  have hlq : ((b.length : Int) != 16 + (wd : Int) + 32 * (p : Int) + 32) = false := by
    have : (b.length : Int) = 16 + (wd : Int) + 32 * (p : Int) + 32 := by omega
    simpa using this
  have hpb : p ≤ 300 := by have := HPP.out; omega
  have hwb : wd ≤ 600 := by have := HWD.out; omega
  have hN1 : ¬ (4096 < (N : Int)) := by omega
  obtain ⟨V52, hV52, hr52⟩ := run_slice_every ei23 HBB.out (some (.int .i64 ((16 : Nat) : Int))) (some (.int .i64 ((16 + wd : Nat) : Int))) 16 (16 + wd) (.inr rfl) (.inr rfl) (by omega) (by omega)
  rw [show ((16 + wd : Nat) : Int) = 16 + (wd : Int) by omega] at hV52
  have h52 : Bs w V52 sl := Bs.of_rd (n := 16 + wd - 16) (l := (b.take (16 + wd)).drop 16) (by have := hr52; rw [Bs.sub_list] at this; exact this) (by rw [← HSL.out]; unfold fsl; rw [HFW.out, List.length_drop, List.length_take]; omega) (by rw [← HSL.out]; unfold fsl; rw [HFW.out])
  have hsll : sl.length = wd := by rw [← HSL.out]; unfold fsl; rw [HFW.out, List.length_drop, List.length_take]; omega
  have hsul : su.length = p := by rw [← HSU.out]; unfold gsu; rw [chunk_length, HFP.out]
  have HGET : Hid (∀ i k, i < p → k < 32 → (su.getD i []).getD k 0 = b.getD (16 + wd + 32 * i + k) 0) := Lib.hid (fun i k hi hk => by have := gsu_get b HLO.out i k (by rw [HFP.out]; exact hi) hk; rw [HSU.out, HFW.out] at this; exact this)
  have H52 := Lib.hid h52
  have HV52 := Lib.hid hV52
  have HSLL := Lib.hid hsll
  have HSUL := Lib.hid hsul
  have TA : True := trivial
  clear hsl hsu hrb hr52 h52 hV52 hsul hsll
  go_enter Try.func70, Try.ntmps70
  have hb0 : At68 (w.alloc (.cells #[.int .u64 0, .int .i64 0, .slice none 0 0, .slice none 0 0] 68)) w.heap.size z68 := heap_alloc_last w _
  have HB1 := Lib.hid hb0
  have HX1 : Hid (Ext w (w.alloc (.cells #[.int .u64 0, .int .i64 0, .slice none 0 0, .slice none 0 0] 68))) := Lib.hid ((Ext.refl w).alloc _)
  clear hb0
  go_wp2_with (first | (refine wpl_v rfl _ (exec_slice_every ei23.t (.tmp 18) (some (.const (.int .i64 12))) (some (.const (.int .i64 16))) rfl _ V42 rfl (some (.int .i64 12)) (some (.int .i64 16)) rfl rfl HV42.out _) ?_) | (go_at_call 109; clear TA; go_must (refine (C42.out _ HX1.out).mono ?_; rintro e w2 ⟨rfl, hx2⟩; have HX2 := Lib.hid (HX1.out.trans hx2); have HB2 := Lib.hid (HB1.out.ext hx2); clear hx2; have TB : True := trivial)) | (go_at_call 73; go_must (refine (rparts_nat N p (by omega) HPP.out.symm _).mono ?_; rintro e w3 ⟨rfl, rfl⟩)) | (refine wpl_v rfl _ (exec_slice_every ei23.t (.tmp 39) (some (.const (.int .i64 4))) (some (.const (.int .i64 12))) rfl _ V39 rfl (some (.int .i64 4)) (some (.int .i64 12)) rfl rfl HV39.out _) ?_) | (go_at_call 109; clear TB; go_must (refine (C39.out _ HX2.out).mono ?_; rintro e w3 ⟨rfl, hx3⟩; have HX3 := Lib.hid (HX2.out.trans hx3); have HB3 := Lib.hid (HB2.out.ext hx3); clear hx3)) | (refine wpl_store68 rfl _ _ rfl w3.heap.size (.int .u64 (num : Int)) (.int .i64 (N : Int)) (.slice none 0 0) (.slice none 0 0) (.int .u64 0) (.int .i64 0) (.slice none 0 0) (.slice none 0 0) rfl rfl (by simp [row68, Value.oneCell']) (heap_alloc_last w3 _) ?_; intro w4 h4 hu4; have HG4 : Hid (At68 w4 w3.heap.size (row68 (.int .u64 (num : Int)) (.int .i64 (N : Int)) (.slice none 0 0) (.slice none 0 0))) := Lib.hid h4; have hx4 : Ext w3 w4 := ((Ext.refl w3).alloc _).upd_new hu4 (Nat.le_refl _); have HX4 := Lib.hid hx4; clear h4 hu4 hx4))
  obtain ⟨g, hgq⟩ : ∃ g, w3.heap.size = g := ⟨_, rfl⟩
  have hlg : w3.heap.size ≤ g := Nat.le_of_eq hgq
  rw [hgq] at HG4 ⊢
  have hs3 := HB3.out.lt
  have hs4 := HG4.out.lt
  have hcg2 : w4.cell? ⟨g, 2, none⟩ = some (.slice none 0 0) := by rw [cell_of_row _ _ _ _ _ _ HG4.out]; rfl
  clear hgq HB2 HX2 HB1 HX1
  refine wp_region_mt 5 (by kernel_rfl) (by kernel_rfl) ?_
  simp only [List.take_succ_cons, List.take_zero]
  refine gq rfl rfl rfl rfl (fun K hK => ?_); go_big_quiet_op; refine hK _ ?_; clear hK K
  refine gx rfl rfl rfl rfl (.slice none 0 0) (fun x => by go_simp) ?_
  simp only [Act.put, List.setIfInBounds_toArray, List.set_cons_succ, List.set_cons_zero]
  refine gq rfl rfl rfl rfl (fun K hK => ?_); go_big_quiet_op; refine hK _ ?_; clear hK K
  refine gq rfl rfl rfl rfl (fun K hK => ?_); go_big_quiet_op; refine hK _ ?_; clear hK K
  refine ge rfl rfl rfl rfl V52 (exec_slice_every ei23.t (.tmp 50) (some (.const (.int .i64 16))) (some (.tmp 51)) rfl _ V52 rfl (some (.int .i64 16)) (some (.int .i64 (16 + (wd : Int)))) rfl rfl HV52.out) ?_
  simp only [Act.put, List.setIfInBounds_toArray, List.set_cons_succ, List.set_cons_zero]
  refine gm_end_at rfl [] rfl (fun xs z hk => ?_)
  clear hk
  simp only [fillM, Act.put, List.setIfInBounds_toArray, List.set_cons_succ, List.set_cons_zero]
  simp only [List.drop_succ_cons, List.drop_zero]
  refine wpList_append_bs rfl _ _ rfl (.slice none 0 0) rfl (l := []) (Own.nil _ _ _) _ rfl (Rd.ext H52.out (HX3.out.trans (HX4.out.trans (ext_ext _ z)))) (by rw [HSLL.out]; simp; omega) ?_
  intro v5 w5 ho5 hg5 hf5
  have hx5 : Ext w4 w5 := (ext_ext w4 z).trans (Grew.ext_nil hg5)
  rw [List.nil_append] at ho5
  have hgb5 := HG4.out.ext hx5
  obtain ⟨A5, c5, e5, _, _, _, _⟩ := (Own.rd ho5).is
  rw [e5] at ho5 ⊢
  have hup : Upd w5 (w5.setCell ⟨g, 2, none⟩ (.slice A5 sl.length c5)) g := (Upd.of_ext (Ext.refl w5) g).setCell (p := ⟨g, 2, none⟩) (.inl rfl) _
  have hcg5 : w5.cell? ⟨g, 2, none⟩ = some (.slice none 0 0) := by rw [cell_of_row _ _ _ _ _ _ hgb5]; rfl
  have hfg5 : w5.frozen? ⟨g, 2, none⟩ = false := frozen_of_row _ _ _ _ _ hgb5
  have HG6 : Hid (At68 (w5.setCell ⟨g, 2, none⟩ (.slice A5 sl.length c5)) g (row68 (.int .u64 (num : Int)) (.int .i64 (N : Int)) (.slice A5 sl.length c5) (.slice none 0 0))) := Lib.hid (heap_setCell_same _ _ 2 _ _ (.slice A5 sl.length c5) hgb5)
  have HO6 := Lib.hid (Own.upd68 ho5 hup hgb5 (by decide))
  have HX6 := Lib.hid ((HX4.out.trans hx5).upd_new hup hlg)
  have hs5 := hgb5.lt
  clear hup hx5 ho5 hg5 hf5 hgb5 e5 hcg2
  simp only [Act.put, List.setIfInBounds_toArray, List.set_cons_succ, List.set_cons_zero]
  go_wp2
  generalize w5.setCell ⟨g, 2, none⟩ (.slice A5 sl.length c5) = W6 at *
  clear hcg5 hfg5 hs5 hwi hlq
  go_loopw [9, 8] (fun i at' wr => ∃ (j : Nat) (v : Value), j ≤ p ∧ i = .int .i64 j ∧ at' = .int .i64 ((16 + wd + 32 * j : Nat) : Int) ∧ At68 wr g (row68 (.int .u64 (num : Int)) (.int .i64 (N : Int)) (.slice A5 sl.length c5) v) ∧ NewD w3 v (su.take j) wr ∧ OwnB wr (.slice A5 sl.length c5) sl) (fun i _ _ => p - (intOf i).toNat)
  case atStart => exact ⟨0, _, by omega, rfl, congrArg (Value.int .i64) (by omega), HG6.out, by simpa using NewD.nil HX6.out, HO6.out⟩
  case round =>
    obtain ⟨j, v, hj, rfl, rfl, hg, hd, ho⟩ := hrel
    obtain ⟨wo, hwo⟩ : ∃ wo, wo = wr := ⟨_, rfl⟩
    subst hwo
    have hsr := hg.lt
    obtain ⟨Av, cv, ev, _, _, _, _⟩ := hd.dgs.rd.is
    have htl : (su.take j).length = j := by rw [List.length_take, HSUL.out]; omega
    rw [htl] at ev
    have HEV := Lib.hid ev
    have HTL := Lib.hid htl
    have hxo := hd.ext
    by_cases hlt : j < p
    · have hts := take_snoc_d su j (by rw [HSUL.out]; exact hlt)
      have hdl : (su.getD j []).length = 32 := by
        have : su.getD j [] = su[j]'(by rw [HSUL.out]; exact hlt) := by simp [List.getD, HSUL.out, hlt]
        rw [this]
        exact H32.out _ (List.getElem_mem _)
      have hget := HGET.out j
      obtain ⟨X, hX⟩ : ∃ X, 16 + wd + 32 * j = X := ⟨_, rfl⟩
      have hXb : X + 32 ≤ b.length := by omega
      have hX2 : 16 + wd + 32 * (j + 1) = X + 32 := by omega
      obtain ⟨d, hdd⟩ : ∃ d, su.getD j [] = d := ⟨_, rfl⟩
      rw [hX, hdd] at hget
      rw [hX]
      rw [hdd] at hts hdl
      have HGK : Hid (∀ k, k < 32 → d.getD k 0 = b.getD (X + k) 0) := Lib.hid (fun k hk => hget k hlt hk)
      obtain ⟨bb, ob, cb', hA, _, _, hbl, hcell⟩ := Bs.pos HBB.out (by omega)
      injection hA with hA1 hA2 hA3
      subst hA1
      subst hA3
      have HCELL : Hid (∀ w', Ext w w' → ∀ k, k < 32 → w'.cell? ⟨bb, ob + (X + k), none⟩ = some (B8 (d.getD k 0)) ∧ bb < w'.heap.size) := Lib.hid (fun w' hx k hk => ⟨by rw [HGK.out k hk]; exact (hx.cell bb (ob + (X + k)) hbl).trans (hcell (X + k) (by omega)), Nat.lt_of_lt_of_le hbl hx.size⟩)
      have HG := Lib.hid hg
      have HD := Lib.hid hd
      have HO := Lib.hid ho
      have HDL := Lib.hid hdl
      have HTS := Lib.hid hts
      have HX2 := Lib.hid hX2
      obtain ⟨D, hDq⟩ : ∃ D, wo.heap.size = D := ⟨_, rfl⟩
      have hgD : g < D := by omega
      have HDQ := Lib.hid hDq
      have HXO := Lib.hid hxo
      clear hg hd ho hdl hts hX2 hget hcell hX hdd htl ev hxo
      go_wp2_with (first | (go_at_call 73; go_must (refine (rparts_nat N p (by omega) HPP.out.symm _).mono ?_; rintro e wp ⟨rfl, rfl⟩)) | (refine wpl_exec rfl (Dig (Sha.zeros 32)) (exec_build27 rfl _) ?_) | (refine wpl_alloc_agg rfl 27 rfl _ zero27.1 ?_) | (refine wpl_store27 rfl _ _ rfl wo.heap.size (Sha.zeros 32) (Sha.zeros 32) rfl rfl (by simp [Sha.zeros]) (by simp [Sha.zeros]) (heap_alloc_last wo _) ?_; intro wa ha hua; have HXA : Hid (Ext wo wa) := Lib.hid (((Ext.refl wo).alloc _).upd_new hua (Nat.le_refl _)); rw [hDq] at ha ⊢; have HA : Hid (Blk wa D 27 (Sha.zeros 32)) := Lib.hid ha; clear ha hua))
      go_loopw [11] (fun q wr => ∃ k : Nat, k ≤ 32 ∧ q = .int .i64 k ∧ Blk wr D 27 (d.take k ++ Sha.zeros (32 - k)) ∧ Ext wo wr) (fun q _ => 32 - (intOf q).toNat)
      case atStart => exact ⟨0, by omega, rfl, by simpa using HA.out, HXA.out⟩
      case round =>
        obtain ⟨k, hk, rfl, hblk, hxk⟩ := hrel
        have hsD := hblk.lt
        have HBK := Lib.hid hblk
        have HXK := Lib.hid hxk
        have HTK := Lib.hid (fill_next d k HDL.out)
        have hll : (d.take k ++ Sha.zeros (32 - k)).length = 32 := by have := HDL.out; simp [Sha.zeros]; omega
        have HLL := Lib.hid hll
        obtain ⟨F, hF⟩ : ∃ F, d.take k ++ Sha.zeros (32 - k) = F := ⟨_, rfl⟩
        by_cases hk2 : k < 32
        · obtain ⟨hck, hbw⟩ := HCELL.out wr ((HX3.out.trans HXO.out).trans hxk) k hk2
          rw [hF] at HBK HTK HLL
          have hcD := HBK.out.cell k (by rw [HLL.out]; exact hk2)
          have hfD := HBK.out.frozen k
          obtain ⟨x, hx⟩ : ∃ x, d.getD k 0 = x := ⟨_, rfl⟩
          rw [hx] at hck HTK
          clear hblk hxk hll hF hx
          go_wp2
          go_roundw
          case rel => exact ⟨k + 1, by omega, by go_num, by rw [← HTK.out hk2]; exact Blk.set HBK.out k x, Ext.setCell_new HXK.out trivial (Nat.le_of_eq HDQ.out)⟩
          case measure => (simp [intOf] <;> omega)
        · obtain rfl : k = 32 := by omega
          have hF2 : F = d := by rw [← hF, List.take_of_length_le (by rw [HDL.out]; exact Nat.le_refl _)]; simp [Sha.zeros]
          rw [hF, hF2] at HBK
          have HGW := Lib.hid (HG.out.ext hxk)
          have HDW := Lib.hid (HD.out.grow hxk)
          have HOW := Lib.hid (Own.ext HO.out hxk)
          have hcg3 : wr.cell? ⟨g, 3, none⟩ = some (.slice Av j cv) := by rw [← HEV.out, cell_of_row _ _ _ _ _ _ HGW.out]; rfl
          have hsw := HGW.out.lt
          clear hblk hxk hll hF hF2
          go_wp2_with (first | (refine wpl_load27 rfl _ rfl D rfl d HDL.out HBK.out ?_) | (refine wpl_vw rfl _ _ (exec_build66 (.tmp 76) rfl d HDL.out rfl _) ?_) | (at_builtin; go_must (refine wpList_append_rd ei66 rfl _ _ rfl _ rfl (by have h := (HDW.out.grow ((Ext.refl wr).alloc (.cells (row8 d) 27))).own; rw [HEV.out, HTL.out] at h; exact h) _ rfl (dgs_one wr d HDL.out).rd (dgc_one [d]) (by simp; omega) ?_; intro v4 w4 ho4 hg4 hf4; have hdz := HDW.out.grow ((Ext.refl wr).alloc (.cells (row8 d) 27)); have hog : Own (wr.alloc (.cells (row8 d) 27)) 27 32 v (su.take j).length (dgc (su.take j)) := hdz.own; have hg4' : Grew (wr.alloc (.cells (row8 d) 27)) w4 v := (by rw [HEV.out]; exact hg4); have hd4 : NewD w3 v4 (su.take j ++ [d]) w4 := hdz.app (fun e he => by have e1 : e = d := (by simpa using he); rw [e1]; exact HDL.out) (by rw [HTL.out]; exact ho4) hg4' (by rw [HEV.out]; exact hf4); have hx8 : Ext wr (wr.alloc (.cells (row8 d) 27)) := (Ext.refl wr).alloc _; have hg5 := (HGW.out.ext hx8).grew hog (by decide) hg4'; have ho5 := Own.other (Own.ext HOW.out hx8) hog (by decide) hg4'; rw [← HTS.out] at hd4; obtain ⟨A4, c4, e4, _, _, _, _⟩ := hd4.dgs.rd.is; have hcg5 : w4.cell? ⟨g, 3, none⟩ = some v := (by rw [cell_of_row _ _ _ _ _ _ hg5]; rfl); have hfg5 : w4.frozen? ⟨g, 3, none⟩ = false := frozen_of_row _ _ _ _ _ hg5; have hs5 := hg5.lt; rw [e4] at hd4 ⊢; obtain ⟨m4, hm4⟩ : ∃ m, (su.take (j + 1)).length = m := ⟨_, rfl⟩; rw [hm4] at hd4 ⊢; have HD4 := Lib.hid hd4; have HG5 := Lib.hid hg5; have HO5 := Lib.hid ho5; clear hd4 hg5 ho5 hm4 e4 hog hg4' hdz hf4 hg4 ho4 hx8)))
          have hup : Upd w4 (w4.setCell ⟨g, 3, none⟩ (.slice A4 m4 c4)) g := (Upd.of_ext (Ext.refl w4) g).setCell (p := ⟨g, 3, none⟩) (.inl rfl) _
          go_roundw
          case rel => exact ⟨j + 1, _, by omega, by go_num, congrArg (Value.int .i64) (by have := HX2.out; omega), heap_setCell_same _ _ 3 _ _ (.slice A4 m4 c4) HG5.out, HD4.out.upd hup HG5.out hlg, Own.upd68 HO5.out hup HG5.out (by decide)⟩
          case measure => (simp [intOf] <;> omega)
    · obtain rfl : j = p := by omega
      rw [List.take_of_length_le (by rw [HSUL.out]; exact Nat.le_refl _)] at hd
      have hR : SeR wo ⟨num, (N : Int), sl, su, .slice A5 sl.length c5, .slice Av j cv⟩ := ⟨Own.rd ho, by rw [← HEV.out]; exact hd.dgs, hnum, (show (-9223372036854775808 : Int) ≤ (N : Int) by omega), (show (N : Int) ≤ 9223372036854775807 by omega)⟩
      have HR := Lib.hid hR
      have HG : Hid (At68 wo g (row68 (.int .u64 (num : Int)) (.int .i64 (N : Int)) (.slice A5 sl.length c5) (.slice Av j cv))) := Lib.hid (by rw [← HEV.out]; exact hg)
      have HD := Lib.hid hd
      have HO := Lib.hid ho
      have HXO := Lib.hid hxo
      have HBO := Lib.hid (HB3.out.ext hxo)
      clear hg hd ho hR ev hxo htl
      rw [HNUM.out, HNN.out] at hcb
      have TM : True := trivial
      have HCC := Lib.hid (rencode_any kv _ key wo (Rd.ext hK (HX3.out.trans HXO.out)) hk0 HR.out HRB.out)
      obtain ⟨C, hC⟩ : ∃ C, encS key num N sl su = C := ⟨_, rfl⟩
      have HCQ : Hid ((!decide (C = b)) = false) := Lib.hid (by rw [← hC, hcb]; rfl)
      have HC := Lib.hid hC
      clear hC hcb hK
      go_wp2_with (first | (go_at_call 73; go_must (refine (rparts_nat N j (by omega) HPP.out.symm _).mono ?_; rintro e wp ⟨rfl, rfl⟩)) | (clear TM; refine wpl_load68 rfl _ rfl g rfl _ _ _ _ HG.out ?_) | (go_at_call 74; go_must (refine HCC.out.mono ?_; rintro e w7 ⟨v7, rfl, hb7, hx7⟩; have hb7 : Bs w7 v7 (encS key num N sl su) := hb7; rw [HC.out] at hb7; have HX7 := Lib.hid hx7; have HB7 := Lib.hid hb7; clear hx7 hb7)) | (refine wpl_v ?_ _ (exec_str (.tmp 91) rfl v7 rfl C _ HB7.out) ?_; rfl) | (refine wpl_v ?_ _ (exec_str (.tmp 93) rfl (.slice Ab b.length cb) rfl b _ (Rd.ext HBB.out ((HX3.out.trans HXO.out).trans HX7.out))) ?_; rfl; go_must (refine wpl_v rfl _ (exec_ne9 (.tmp 92) (.tmp 94) _ rfl C b rfl rfl _) ?_; rw [HCQ.out])) | (refine wpl_load68 rfl _ rfl g rfl _ _ _ _ (HG.out.ext HX7.out) ?_) | (refine wpl_store68 rfl _ _ rfl w.heap.size (.int .u64 (num : Int)) (.int .i64 (N : Int)) (.slice A5 sl.length c5) (.slice Av j cv) (.int .u64 0) (.int .i64 0) (.slice none 0 0) (.slice none 0 0) rfl rfl (by simp [row68, Value.oneCell']) (HBO.out.ext HX7.out) ?_; intro wz hz huz; have HZ := Lib.hid hz; have HUZ := Lib.hid huz; clear hz huz))
      have hou7 := Own.ext HO.out HX7.out
      have hd7 := HD.out.grow HX7.out
      have hb7 := HBO.out.ext HX7.out
      refine ret68t rfl w.heap.size _ _ _ _ _ rfl rfl HZ.out rfl ⟨_, _, rfl, Own.rd (Own.upd68 hou7 HUZ.out hb7 (by decide)), ?_, ((HX3.out.trans HXO.out).trans HX7.out).upd_new HUZ.out (Nat.le_refl _)⟩
      rw [← HEV.out]
      exact ⟨Own.rd (Own.upd68 hd7.own HUZ.out hb7 (by decide)), hd7.all⟩
/-- Whatever the bytes. -/
theorem rdecode_any (kv bv : Value) (key b : List UInt8) (w : World) (hB : Bs w bv b) (hK : Bs w kv key) (hk0 : key.length ≤ 2147483648) (hb : b.length ≤ 1073741824) :
    Calls Try.prog 70 #[kv, bv] w fun e w' => ∃ x : Se, ∃ c : Int, e = .returned (.tuple #[x.v, .int .i64 c]) ∧ SeR w' x ∧ Ext w w' ∧
      ((good key b = true ∧ c = 0 ∧ x.num = fnum b ∧ x.blk = (fN b : Int) ∧ x.sl = fsl b ∧ x.su = gsu b) ∨ (good key b = false ∧ c = 5 ∧ x = ⟨0, 0, [], [], .slice none 0 0, .slice none 0 0⟩)) := by
  have fail : good key b = false → Calls Try.prog 70 #[kv, bv] w (fun e w' => e = .returned (.tuple #[Z68, .int .i64 5]) ∧ Ext w w') → Calls Try.prog 70 #[kv, bv] w fun e w' => ∃ x : Se, ∃ c : Int, e = .returned (.tuple #[x.v, .int .i64 c]) ∧ SeR w' x ∧ Ext w w' ∧
      ((good key b = true ∧ c = 0 ∧ x.num = fnum b ∧ x.blk = (fN b : Int) ∧ x.sl = fsl b ∧ x.su = gsu b) ∨ (good key b = false ∧ c = 5 ∧ x = ⟨0, 0, [], [], .slice none 0 0, .slice none 0 0⟩)) := fun hg hc =>
    hc.mono fun e w' ⟨he, hx⟩ => ⟨⟨0, 0, [], [], .slice none 0 0, .slice none 0 0⟩, 5, he, ⟨Rd.nil _ _, ⟨Rd.nil _ _, by intro d hd; cases hd⟩, by decide, by decide, by decide⟩, hx, .inr ⟨hg, rfl, rfl⟩⟩
  by_cases h16 : 16 ≤ b.length
  · by_cases hN : fN b ≤ 4096
    · by_cases hlo : b.length = flong b
      · cases hr : rightB (fN b) (fsl b) (gsu b) with
        | false => exact fail (by unfold good; rw [hr]; simp) (rdecode_wrong kv bv key b _ _ w hB hK hk0 h16 hb hN hlo rfl rfl hr)
        | true =>
          cases hc : decide (encS key (fnum b) (fN b) (fsl b) (gsu b) = b) with
          | false => exact fail (by unfold good; rw [hc]; simp) (rdecode_other kv bv key b _ _ w hB hK hk0 h16 hb hN hlo rfl rfl hr hc)
          | true =>
            refine (rdecode_right kv bv key b _ _ w hB hK hk0 h16 hb hN hlo rfl rfl hr hc).mono fun e w' ⟨sv, gv, he, h1, h2, h3⟩ => ?_
            have hnum : fnum b ≤ 18446744073709551615 := by
              have := spell_lt ((b.take 12).drop 4)
              rw [show ((b.take 12).drop 4).length = 8 by rw [List.length_drop, List.length_take]; omega] at this
              unfold fnum
              omega
            exact ⟨⟨fnum b, (fN b : Int), fsl b, gsu b, sv, gv⟩, 0, he, ⟨h1, h2, hnum, (show (-9223372036854775808 : Int) ≤ (fN b : Int) by omega), (show (fN b : Int) ≤ 9223372036854775807 by omega)⟩, h3, .inl ⟨by unfold good; rw [hc, hr, decide_eq_true hN, decide_eq_true hlo]; rfl, rfl, rfl, rfl, rfl, rfl⟩⟩
      · exact fail (by unfold good; rw [decide_eq_false hlo]; simp) (rdecode_len kv bv b w hB h16 hb hN hlo)
    · exact fail (by unfold good; rw [decide_eq_false hN]; rfl) (rdecode_big kv bv b w hB h16 hb (by omega))
  · exact fail (by unfold good; rw [decide_eq_false (fun h : b.length = flong b => h16 (by rw [h]; unfold flong; omega))]; simp) (rdecode_short kv bv b w hB (by omega))
end Go.Proofs.Ytapojpjmeadabaa
end

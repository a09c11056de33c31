/- The reference's hash: sacristanref02.constants, step. -/
import Derived.Test.YtapojpjmeadabaaRefw
namespace Go.Proofs.Ytapojpjmeadabaa
open Go.RowKit
set_option linter.unusedVariables false
set_option linter.unusedSimpArgs false
attribute [local go_sem] lt_ext cell?_ext frozen?_ext shape?_ext u32_xor u32_or u32_and u32_not u32_not_max u32_add u32_wrap u8_wrap u32_shl24 u32_shl16 u32_shl8 u32_shr3 u32_shr10 u8_xor u8_or u32_of_u8 i32_mod i8_mod m32_add m32_shl24 m32_shl16 m32_shl8 m32_of_u8

set_option maxRecDepth 100000 in
set_option maxHeartbeats 1000000 in
theorem constants_any (w : World) : Calls Try.prog 113 #[] w fun e w' => ∃ v', e = .returned v' ∧ Ws w' v' Sha.K ∧ Ext w w' := by
  go_enter Try.func113, Try.ntmps113
  go_wp2
  go_ret
  exact ⟨_, rfl, Ws.lit_new w _ Sha.K (by kernel_rfl) (by decide), (Ext.refl w).alloc _⟩
theorem ch_eq (e f g : BitVec 32) : (e &&& f) ||| (~~~e &&& g) = (e &&& f) ^^^ (~~~e &&& g) := by
  apply BitVec.eq_of_getLsbD_eq
  intro i hi
  simp only [BitVec.getLsbD_or, BitVec.getLsbD_and, BitVec.getLsbD_xor, BitVec.getLsbD_not, hi, decide_true, Bool.true_and]
  cases e.getLsbD i <;> cases f.getLsbD i <;> cases g.getLsbD i <;> rfl
theorem maj_eq (a b c : BitVec 32) : (a &&& b) ||| (a &&& c) ||| (b &&& c) = (a &&& b) ^^^ (a &&& c) ^^^ (b &&& c) := by
  apply BitVec.eq_of_getLsbD_eq
  intro i hi
  simp only [BitVec.getLsbD_or, BitVec.getLsbD_and, BitVec.getLsbD_xor]
  cases a.getLsbD i <;> cases b.getLsbD i <;> cases c.getLsbD i <;> rfl
/-- The rounds with the constants under a name. -/
def roundsK (KK ws : List (BitVec 32)) (st : Sha.St) : Nat → Sha.St
  | 0 => st
  | n + 1 => Sha.round (roundsK KK ws st n) (KK.getD n 0) (ws.getD n 0)
theorem roundsK_eq (ws : List (BitVec 32)) (st : Sha.St) : ∀ n, roundsK Sha.K ws st n = Sha.rounds st ws n
  | 0 => rfl
  | n + 1 => by unfold roundsK Sha.rounds; rw [roundsK_eq ws st n]
theorem eight_cells (s : Sha.St) : #[W32 s.a, W32 s.b, W32 s.c, W32 s.d, W32 s.e, W32 s.f, W32 s.g, W32 s.h] = (s.toList.map W32).toArray := rfl
set_option maxRecDepth 100000 in
set_option maxHeartbeats 1000000 in
theorem step_of (KK ws : List (BitVec 32)) (hK64 : KK.length = 64) (hw64 : ws.length = 64) (st : Sha.St) (sv v : Value) (l : List UInt8) (hl : l.length = 64) (hKK : Hid (KK = Sha.K)) (hws : Hid (ws = Sha.words l 64)) (w : World) (hS : Ws w sv st.toList) (hB : Bs w v l) :
    Calls Try.prog 80 #[sv, v] w fun e w' => ∃ v', e = .returned v' ∧ NewW w v' (Sha.block st l).toList w' := by
  have HS := Lib.hid hS
  have HB := Lib.hid hB
  clear hS hB
  go_enter Try.func80, Try.ntmps80
  go_wp2_with (first | (go_at_call 112; go_must (refine (words_any v l hl _ HB.out).mono ?_; rintro e w1 ⟨v1, rfl, hN1⟩; rw [← hws.out] at hN1; have HN1 := Lib.hid hN1; clear hN1)) | (go_at_call 113; go_must (refine (constants_any w1).mono ?_; rintro e w2 ⟨v2, rfl, hK, hE2⟩; rw [← hKK.out] at hK; have HK := Lib.hid hK; have HE2 := Lib.hid (HN1.out.ext.trans hE2); have HV := Lib.hid (HN1.out.ws.ext hE2); clear hK hE2)) | (at_builtin; go_must (refine wpList_append_ws rfl _ _ rfl (.slice none 0 0) rfl (l := []) (Own.nil _ _ _) _ rfl (HS.out.ext HE2.out) (by simp [Sha.St.toList]) ?_; intro v7 w3 ho7 hg7 hf7; have hx3 := Chg.ext (Chg.of_grew hg7) (fun k hk => nomatch hk); have H7 := Lib.hid (Own.rd ho7); have HX3 := Lib.hid (HE2.out.trans hx3); have HV3 := Lib.hid (HV.out.ext hx3); have HK3 := Lib.hid (HK.out.ext hx3); clear ho7 hg7 hf7 hx3)))
  go_loopw [7, 8] (fun v i wr => ∃ k : Nat, k ≤ 64 ∧ i = .int .i64 k ∧ Ext w3 wr ∧ Ws wr v (roundsK KK ws st k).toList) (fun _ i _ => 64 - (intOf i).toNat)
  case atStart => exact ⟨0, by omega, rfl, Ext.refl _, H7.out⟩
  case round =>
    obtain ⟨k, hk, rfl, hE, hW⟩ := hrel
    by_cases hlt : k < 64
    · obtain ⟨s, hs⟩ : ∃ s, roundsK KK ws st k = s := ⟨_, rfl⟩
      rw [hs] at hW
      have HSs := Lib.hid hs
      obtain ⟨b7, o7, cap7, rfl, _, _, hb7, hc7⟩ := hW.pos (by simp [Sha.St.toList])
      obtain ⟨b6, o6, cap6, rfl, _, _, hb6, hc6⟩ := Ws.pos (l := KK) (HK3.out.ext hE) (by omega)
      obtain ⟨b5, o5, cap5, rfl, _, _, hb5, hc5⟩ := Ws.pos (l := ws) (HV3.out.ext hE) (by omega)
      have a0 : wr.cell? ⟨b7, o7 + 0, none⟩ = some (W32 s.a) := hc7 0 (by simp [Sha.St.toList])
      have a1 : wr.cell? ⟨b7, o7 + 1, none⟩ = some (W32 s.b) := hc7 1 (by simp [Sha.St.toList])
      have a2 : wr.cell? ⟨b7, o7 + 2, none⟩ = some (W32 s.c) := hc7 2 (by simp [Sha.St.toList])
      have a3 : wr.cell? ⟨b7, o7 + 3, none⟩ = some (W32 s.d) := hc7 3 (by simp [Sha.St.toList])
      have a4 : wr.cell? ⟨b7, o7 + 4, none⟩ = some (W32 s.e) := hc7 4 (by simp [Sha.St.toList])
      have a5 : wr.cell? ⟨b7, o7 + 5, none⟩ = some (W32 s.f) := hc7 5 (by simp [Sha.St.toList])
      have a6 : wr.cell? ⟨b7, o7 + 6, none⟩ = some (W32 s.g) := hc7 6 (by simp [Sha.St.toList])
      have a7 : wr.cell? ⟨b7, o7 + 7, none⟩ = some (W32 s.h) := hc7 7 (by simp [Sha.St.toList])
      have ak := hc6 k (by omega)
      have aw := hc5 k (by omega)
      generalize hKk : KK.getD k 0 = kk at ak
      generalize hWk : ws.getD k 0 = wk at aw
      rw [Nat.add_zero] at a0
      have HE := Lib.hid hE
      have HWW := Lib.hid hW
      have HKK := Lib.hid hKk
      have HWK := Lib.hid hWk
      clear hE hW hc7 hc6 hc5 hKk hWk hs
      rw [hK64, hw64, show s.toList.length = 8 from rfl]
      go_wp2
      refine wp_region_qx (by kernel_rfl) (by kernel_rfl) ?_
      repeat (go_big_quiet_step (exact Calls.in_ext_same (turn_c _ _ (by decide) (by decide) _)))
      refine wpQuiet_nil ?_
      intro x
      have ht1 : s.h + (Sha.rot s.e 6 ^^^ Sha.rot s.e 11 ^^^ Sha.rot s.e 25) + (s.e &&& s.f ||| ~~~s.e &&& s.g) + kk + wk = Sha.t1 s kk wk := by unfold Sha.t1; rw [ch_eq]
      rw [ht1]
      clear ht1
      have hx1 := ext_ext wr x
      rw [← cell?_ext wr x _ _ hb7] at a0 a1 a2 a3 a4 a5 a6 a7
      have hb7 : b7 < (wr.ext x).heap.size := Nat.lt_of_lt_of_le hb7 hx1.size
      generalize wr.ext x = wa at *
      have HE1 := Lib.hid (HE.out.trans hx1)
      clear hx1 ak aw
      go_wp2
      refine wp_region_qx (by kernel_rfl) (by kernel_rfl) ?_
      repeat (go_big_quiet_step (exact Calls.in_ext_same (turn_c _ _ (by decide) (by decide) _)))
      refine wpQuiet_nil ?_
      intro y
      have ht2 : (Sha.rot s.a 2 ^^^ Sha.rot s.a 13 ^^^ Sha.rot s.a 22) + (s.a &&& s.b ||| s.a &&& s.c ||| s.b &&& s.c) = Sha.t2 s := by unfold Sha.t2; rw [maj_eq]
      rw [ht2]
      clear ht2
      have hx1 := ext_ext wa y
      rw [← cell?_ext wa y _ _ hb7] at a0 a1 a2 a3 a4 a5 a6 a7
      have hb7 : b7 < (wa.ext y).heap.size := Nat.lt_of_lt_of_le hb7 hx1.size
      generalize wa.ext y = wb at *
      have HE2 := Lib.hid (HE1.out.trans hx1)
      clear hx1 HE1 HE
      go_wp2
      refine wp_region_qxt 26 (by kernel_rfl) (by kernel_rfl) ?_
      simp only [List.take_succ_cons, List.take_zero, List.drop_succ_cons, List.drop_zero]
      repeat (go_big_quiet_step (fail))
      refine wpQuiet_nil ?_
      intro z
      have hx1 := ext_ext wb z
      generalize wb.ext z = wc at *
      have HE3 := Lib.hid (HE2.out.trans hx1)
      clear hx1 HE2 a0 a1 a2 a3 a4 a5 a6 a7 hb7
      go_wp2
      go_roundw
      case rel =>
        refine ⟨k + 1, by omega, by go_num, HE3.out.trans ((Ext.refl _).alloc _), ?_⟩
        have hr : roundsK KK ws st (k + 1) = Sha.round s (KK.getD k 0) (ws.getD k 0) := by rw [← HSs.out]; rfl
        rw [hr, HKK.out, HWK.out]
        exact Ws.lit_new wc _ (Sha.round s kk wk).toList (eight_cells (Sha.round s kk wk)) (by simp [Sha.St.toList])
      case measure => simp [intOf]; omega
    · obtain rfl : k = 64 := by omega
      have hfin : st.add (roundsK KK ws st 64) = Sha.block st l := by
        rw [hKK.out, hws.out, roundsK_eq]; rfl
      generalize roundsK KK ws st 64 = x at *
      have HFIN := Lib.hid hfin
      obtain ⟨b7, o7, cap7, rfl, _, _, hb7, hc7⟩ := hW.pos (by simp [Sha.St.toList])
      obtain ⟨b0, o0, cap0, rfl, _, _, hb0, hc0⟩ := Ws.pos (l := st.toList) (HS.out.ext (HX3.out.trans hE)) (by simp [Sha.St.toList])
      have HC7 := Lib.hid hc7
      have HC0 := Lib.hid hc0
      have HEW := Lib.hid (HX3.out.trans hE)
      clear hE hW hc7 hc0 hfin
      obtain ⟨wo, rfl⟩ : ∃ wo : World, wo = wr := ⟨_, rfl⟩
      go_wp2
      go_loopw [11, 12] (fun v i wr => ∃ k : Nat, k ≤ 8 ∧ i = .int .i64 k ∧ NewW wo v ((st.add x).toList.take k) wr) (fun _ i _ => 8 - (intOf i).toNat)
      case atStart => exact ⟨0, by omega, rfl, NewW.nil (Ext.refl _)⟩
      case round =>
        obtain ⟨j, hj, rfl, hnew⟩ := hrel
        have hlj : ((st.add x).toList.take j).length = j := by rw [List.length_take]; simp [Sha.St.toList]; omega
        by_cases hlt : j < 8
        · have c7 := (hnew.ext.cell b7 (o7 + j) hb7).trans (HC7.out j hlt)
          have c0 := (hnew.ext.cell b0 (o0 + j) hb0).trans (HC0.out j hlt)
          have hb7' := Nat.lt_of_lt_of_le hb7 hnew.ext.size
          have hb0' := Nat.lt_of_lt_of_le hb0 hnew.ext.size
          have hsum : st.toList.getD j 0 + x.toList.getD j 0 = (st.add x).toList.getD j 0 := by
            rcases below8 j hlt with h|h|h|h|h|h|h|h <;> subst h <;> rfl
          have htk : (st.add x).toList.take (j + 1) = (st.add x).toList.take j ++ [(st.add x).toList.getD j 0] := by
            rcases below8 j hlt with h|h|h|h|h|h|h|h <;> subst h <;> rfl
          generalize st.toList.getD j 0 = p at *
          generalize x.toList.getD j 0 = q at *
          generalize (st.add x).toList.getD j 0 = r at *
          generalize hP : (st.add x).toList.take j = P at *
          have HTK := Lib.hid htk
          have HN := Lib.hid hnew
          have HP := Lib.hid hP
          have HSUM := Lib.hid hsum
          clear hnew htk hP hsum
          rw [show x.toList.length = 8 from rfl, show st.toList.length = 8 from rfl]
          go_wp2
          refine wp_region_mt 11 (by kernel_rfl) (by kernel_rfl) ?_
          simp only [List.take_succ_cons, List.take_zero, List.drop_succ_cons, List.drop_zero]
          repeat (refine gm_q rfl rfl rfl rfl (fun K hK => ?_); go_big_quiet_op; refine hK _ ?_; clear hK K)
          refine gm_v rfl rfl rfl rfl 147 rfl (fun u w' => Ws w' u [r]) (fun _ _ _ h1 h2 => Rd.ext h2 h1) (fun x => ⟨_, _, by go_simp; exact ⟨rfl, rfl⟩, ?_, ?_⟩) ?_
          · rw [HSUM.out]
            exact Ws.lit_new _ _ [_] (word_cells _) (by simp)
          · exact (Ext.refl _).alloc _
          refine gm_end_at rfl [(147, (fun u w' => Ws w' u [r]))] rfl (fun xs z hk => ?_)
          have h68 := hk 147 (by simp [Act.put]) _ rfl
          simp only [fillM, Act.put, List.setIfInBounds_toArray, List.set_cons_succ, List.set_cons_zero]
          have he := ext_ext wr z
          generalize wr.ext z = w9 at *
          generalize xs 147 = v9 at *
          have H68 := Lib.hid h68
          have HE := Lib.hid he
          clear hk h68 he xs c7 c0
          go_wp2_with (at_builtin; go_must (refine wpList_append_ws rfl _ _ rfl _ rfl (HN.out.grow HE.out).own _ rfl H68.out (by rw [hlj]; simp; omega) ?_; intro v10 w10 ho1 hg1 hf1; have HN1 := Lib.hid ((HN.out.grow HE.out).app ho1 hg1 hf1); clear ho1 hg1 hf1))
          go_roundw
          case rel => exact ⟨j + 1, by omega, by go_num, by rw [HTK.out]; exact HN1.out⟩
          case measure => simp [intOf]; omega
        · obtain rfl : j = 8 := by omega
          have HN := Lib.hid hnew
          clear hnew
          go_wp2
          go_ret
          refine ⟨_, rfl, ?_⟩
          have h := HN.out
          rw [← HFIN.out]
          exact ⟨h.own, HEW.out.trans h.ext, fun g hg => Nat.le_trans HEW.out.size (h.fr g hg)⟩
theorem step_any (st : Sha.St) (sv v : Value) (l : List UInt8) (hl : l.length = 64) (w : World) (hS : Ws w sv st.toList) (hB : Bs w v l) :
    Calls Try.prog 80 #[sv, v] w fun e w' => ∃ v', e = .returned v' ∧ NewW w v' (Sha.block st l).toList w' :=
  step_of Sha.K (Sha.words l 64) rfl (Sha.words_length _ _) st sv v l hl (Lib.hid rfl) (Lib.hid rfl) w hS hB
end Go.Proofs.Ytapojpjmeadabaa

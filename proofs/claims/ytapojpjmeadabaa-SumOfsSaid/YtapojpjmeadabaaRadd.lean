/- sacristanref05.Add. -/
import Derived.Test.YtapojpjmeadabaaOfs
namespace Go.Proofs.Ytapojpjmeadabaa
open Go.RowKit
set_option linter.unusedVariables false
set_option linter.unusedSimpArgs false
attribute [local go_sem] lt_ext cell?_ext frozen?_ext shape?_ext
attribute [local go_sem] u8_xor u8_or i8_mod u8_wrap

def rS (A B : List UInt8) (m : Nat) : Nat := spell (A.drop (32 - m)) + spell (B.drop (32 - m))
theorem spell_drop (A : List UInt8) (hA : A.length = 32) (m j : Nat) (hm : j + m = 31) : spell (A.drop (32 - (m + 1))) = (A.getD j 0).toNat * 256 ^ m + spell (A.drop (32 - m)) := by
  rw [show 32 - (m + 1) = j by omega, show 32 - m = j + 1 by omega, List.drop_eq_getElem_cons (by omega), spell_cons, List.length_drop, show A.length - (j + 1) = m by omega]
  simp [List.getElem?_eq_getElem (show j < A.length by omega)]
theorem rS_lt (A B : List UInt8) (hA : A.length = 32) (hB : B.length = 32) (m : Nat) (hm : m ≤ 32) : rS A B m < 2 * 256 ^ m := by
  have h1 := spell_lt (A.drop (32 - m))
  have h2 := spell_lt (B.drop (32 - m))
  rw [List.length_drop, show A.length - (32 - m) = m by omega] at h1
  rw [List.length_drop, show B.length - (32 - m) = m by omega] at h2
  unfold rS
  omega
def outR (A B : List UInt8) (m : Nat) : List UInt8 := Sha.zeros (32 - m) ++ be (rS A B m) m
theorem outR_length (A B : List UInt8) (m : Nat) (hm : m ≤ 32) : (outR A B m).length = 32 := by simp [outR, Sha.zeros, be_length]; omega
theorem rS_step (A B : List UInt8) (hA : A.length = 32) (hB : B.length = 32) (m j : Nat) (hm : j + m = 31) :
    rS A B (m + 1) / 256 ^ m = rS A B m / 256 ^ m + (A.getD j 0).toNat + (B.getD j 0).toNat ∧ rS A B (m + 1) % 256 ^ m = rS A B m % 256 ^ m := by
  have e : rS A B (m + 1) = rS A B m + ((A.getD j 0).toNat + (B.getD j 0).toNat) * 256 ^ m := by
    unfold rS
    rw [spell_drop A hA m j hm, spell_drop B hB m j hm, Nat.add_mul]
    omega
  rw [e, Nat.add_mul_div_right _ _ (Nat.pow_pos (by omega)), Nat.add_mul_mod_self_right]
  exact ⟨by omega, rfl⟩
theorem outR_next (A B : List UInt8) (hA : A.length = 32) (hB : B.length = 32) (m j : Nat) (hm : j + m = 31) :
    (outR A B m).set j (UInt8.ofNat (rS A B m / 256 ^ m + (A.getD j 0).toNat + (B.getD j 0).toNat)) = outR A B (m + 1) := by
  obtain ⟨h1, h2⟩ := rS_step A B hA hB m j hm
  unfold outR
  rw [← h1, be_congr (rS A B m) (rS A B (m + 1)) m h2.symm]
  exact be_set _ 32 m j (by omega)
theorem carry_next (A B : List UInt8) (hA : A.length = 32) (hB : B.length = 32) (m j : Nat) (hm : j + m = 31) :
    rS A B (m + 1) / 256 ^ (m + 1) = (rS A B m / 256 ^ m + (A.getD j 0).toNat + (B.getD j 0).toNat) / 256 := by
  rw [← (rS_step A B hA hB m j hm).1, Nat.pow_succ, Nat.div_div_eq_div_mul]
theorem carry_le (A B : List UInt8) (hA : A.length = 32) (hB : B.length = 32) (m : Nat) (hm : m ≤ 32) : rS A B m / 256 ^ m ≤ 1 := by
  have := rS_lt A B hA hB m hm
  have : rS A B m / 256 ^ m < 2 := Nat.div_lt_of_lt_mul (by rw [Nat.mul_comm]; exact this)
  omega
theorem w64_in (n : Int) (h : -9223372036854775808 ≤ n ∧ n ≤ 9223372036854775807) : wrap64 n = n := by unfold wrap64; omega
theorem wrap_sum (c a b S : Nat) (h : c + a + b = S) (hS : S ≤ 511) : wrap64 (wrap64 ((c : Int) + wrap64 (a : Int)) + wrap64 (b : Int)) = (S : Int) := by
  have e1 : wrap64 (a : Int) = a := w64_in _ (by omega)
  have e2 : wrap64 (b : Int) = b := w64_in _ (by omega)
  have e3 : wrap64 ((c : Int) + a) = c + a := w64_in _ (by omega)
  rw [e1, e2, e3, w64_in _ (by omega)]
  omega
theorem outR_done (A B : List UInt8) : outR A B 32 = addD A B := by
  unfold outR addD rS
  simp [Sha.zeros]
set_option maxRecDepth 100000 in
theorem exec_build27 {o : Oper} {ρ : Operand → Value} (ho : o.op = .build 27 #[]) (w : World) : (execOp ρ o).run Try.prog w = .ok (.value (Dig (Sha.zeros 32))) w := by
  unfold execOp
  rw [ho]
  go_simp
  rfl
set_option maxRecDepth 100000 in
set_option maxHeartbeats 1000000 in
theorem radd_any (A B : List UInt8) (hA : A.length = 32) (hB : B.length = 32) (w : World) :
    Calls Try.prog 98 #[Dig A, Dig B] w fun e w' => e = .returned (Dig (addD A B)) ∧ Ext w w' := by
  have HA := Lib.hid hA
  have HB := Lib.hid hB
  clear hA hB
  obtain ⟨D, hD⟩ : ∃ D, addD A B = D := ⟨_, rfl⟩
  have HDl : Hid (D.length = 32) := Lib.hid (by rw [← hD]; exact addD_length _ _)
  have HD : Hid (outR A B 32 = D) := Lib.hid (by rw [← hD]; exact outR_done A B)
  rw [hD]
  clear hD
  obtain ⟨⟨h0, h1, h2⟩, hx, hs⟩ := three_new w (.cells (row8 A) 27) (.cells (row8 B) 27) (.cells (row8 (Sha.zeros 32)) 27)
  go_enter Try.func98, Try.ntmps98
  have TA : True := trivial
  go_wp2_with (first | (clear TA; refine wpl_exec rfl (Dig (Sha.zeros 32)) (exec_build27 rfl _) ?_; generalize ((w.alloc (.cells (row8 A) 27)).alloc (.cells (row8 B) 27)).alloc (.cells (row8 (Sha.zeros 32)) 27) = w0 at *; have HP := Lib.hid (show Blk w0 w.heap.size 27 A from h0); have HQ := Lib.hid (show Blk w0 (w.heap.size + 1) 27 B from h1); have HR := Lib.hid (show Blk w0 (w.heap.size + 2) 27 (Sha.zeros 32) from h2); have HX := Lib.hid hx; have HS : Hid (w0.heap.size = w.heap.size + 3) := Lib.hid hs; clear h0 h1 h2 hx hs) | (refine wpl_alloc_agg rfl 27 rfl _ zero27.1 ?_) | (refine wpl_store27 rfl _ _ rfl w0.heap.size (Sha.zeros 32) (Sha.zeros 32) rfl rfl (by simp [Sha.zeros]) (by simp [Sha.zeros]) (heap_alloc_last w0 _) ?_; intro w2 h2 hu2; have H2 := Lib.hid h2; have HX2 := Lib.hid (((Ext.refl w0).alloc _).upd_new hu2 (Nat.le_refl _)); clear h2 hu2))
  have H3 : Hid (Blk w2 (w.heap.size + 3) 27 (Sha.zeros 32)) := Lib.hid (by have h := H2.out; rw [HS.out] at h; exact h)
  have HP2 := Lib.hid (Blk.ext HP.out HX2.out)
  have HQ2 := Lib.hid (Blk.ext HQ.out HX2.out)
  have HR2 := Lib.hid (Blk.ext HR.out HX2.out)
  have HXX := Lib.hid (HX.out.trans HX2.out)
  rw [HS.out]
  clear H2 HP HQ HR HX HX2 HS w0
  go_loopw [7, 6] (fun i c wr => ∃ (m cc : Nat), m ≤ 32 ∧ i = .int .i64 (31 - (m : Int)) ∧ c = .int .i64 (cc : Int) ∧ cc = rS A B m / 256 ^ m ∧ Blk wr w.heap.size 27 A ∧ Blk wr (w.heap.size + 1) 27 B ∧ Blk wr (w.heap.size + 2) 27 (Sha.zeros 32) ∧ Blk wr (w.heap.size + 3) 27 (outR A B m) ∧ Ext w wr) (fun i _ _ => (intOf i + 1).toNat)
  case atStart => exact ⟨0, 0, by omega, rfl, rfl, by simp [rS, List.drop_eq_nil_of_le (Nat.le_of_eq HA.out), List.drop_eq_nil_of_le (Nat.le_of_eq HB.out), spell], HP2.out, HQ2.out, HR2.out, H3.out, HXX.out⟩
  case round =>
    obtain ⟨m, cc, hm, rfl, rfl, hcc, hP, hQ, hR, hO, hx⟩ := hrel
    clear HP2 HQ2 HR2 H3 HXX w2
    have HP := Lib.hid hP
    have HQ := Lib.hid hQ
    have HR := Lib.hid hR
    have HO := Lib.hid hO
    have HX := Lib.hid hx
    have hl0 := hP.lt
    have hl1 := hQ.lt
    have hl3 := hO.lt
    have HCC := Lib.hid hcc
    have hcl : cc ≤ 1 := by rw [hcc]; exact carry_le A B HA.out HB.out m hm
    clear hP hQ hR hO hx hcc
    by_cases hlt : m < 32
    · obtain ⟨j, hj, hj32⟩ : ∃ j : Nat, (31 : Int) - (m : Int) = (j : Int) ∧ j < 32 := ⟨31 - m, by omega, by omega⟩
      have hjm : j + m = 31 := by omega
      have HJ := Lib.hid hjm
      have hca := HP.out.cell j (by have := HA.out; omega)
      have hcb := HQ.out.cell j (by have := HB.out; omega)
      have hco := HO.out.cell j (by rw [outR_length _ _ _ hm]; omega)
      have hfo := HO.out.frozen j
      have HN := Lib.hid (outR_next A B HA.out HB.out m j hjm)
      have HC := Lib.hid (carry_next A B HA.out HB.out m j hjm)
      rw [← HCC.out] at HN HC
      generalize A.getD j 0 = x at *
      generalize B.getD j 0 = y at *
      generalize (outR A B m).getD j 0 = old at *
      rw [hj]
      clear hj hjm
      have hx256 := x.toNat_lt
      have hy256 := y.toNat_lt
      go_wp2
      refine wp_region_m (by kernel_rfl) (by kernel_rfl) ?_; try simp only [Act.put, List.setIfInBounds_toArray, List.set_cons_succ, List.set_cons_zero]
      repeat (refine gq rfl rfl rfl rfl (fun K hK => ?_); go_big_quiet_op; refine hK _ ?_; clear hK K)
      refine gm_end_at rfl [] rfl (fun xs z hk => ?_)
      clear hk
      simp only [fillM, Act.put, List.setIfInBounds_toArray, List.set_cons_succ, List.set_cons_zero]
      have hxz : Ext wr (wr.ext z) := ext_ext wr z
      generalize wr.ext z = wz at *
      have HPz := Lib.hid (Blk.ext HP.out hxz)
      have HQz := Lib.hid (Blk.ext HQ.out hxz)
      have HRz := Lib.hid (Blk.ext HR.out hxz)
      have HOz := Lib.hid (Blk.ext HO.out hxz)
      have HXz := Lib.hid (HX.out.trans hxz)
      have hl3' := Nat.lt_of_lt_of_le hl3 hxz.size
      have hco' : wz.cell? ⟨w.heap.size + 3, j, none⟩ = some (B8 old) := (hxz.cell _ _ hl3).trans hco
      have hfo' := HOz.out.frozen j
      obtain ⟨S, hS⟩ : ∃ S, cc + x.toNat + y.toNat = S := ⟨_, rfl⟩
      have hSl : S ≤ 511 := by omega
      rw [hS] at HN HC
      have e1 : wrap64 (wrap64 ((cc : Int) + wrap64 (i8 x)) + wrap64 (i8 y)) = (S : Int) := wrap_sum cc x.toNat y.toNat S hS hSl
      rw [e1]
      have e2 : (S : Int) % 256 = i8 (UInt8.ofNat S) := by simp [i8]
      have HE2 := Lib.hid e2
      clear hxz hx256 hy256 hca hcb hco hfo hl0 hl1 hl3 HP HQ HR HO HX e1 e2 hS
      go_wp2
      go_roundw
      case rel =>
        refine ⟨m + 1, S / 256, by omega, by have := HJ.out; congr 1; omega, by congr 1, HC.out.symm, other_cell HPz.out (by omega), other_cell HQz.out (by omega), other_cell HRz.out (by omega), ?_, Ext.setCell_new HXz.out trivial (Nat.le_add_right _ _)⟩
        have h := HOz.out.set j (UInt8.ofNat S)
        rw [HN.out] at h
        have e : Value.int .u8 ((S : Int) % 256) = B8 (UInt8.ofNat S) := congrArg _ HE2.out
        rw [e]
        exact h
      case measure => (simp [intOf] <;> omega)
    · obtain rfl : m = 32 := by omega
      rw [HD.out] at HO
      go_wp2_with (first | (refine wpl_load27 rfl _ rfl (w.heap.size + 3) rfl D HDl.out HO.out ?_) | (refine wpl_store27 rfl _ _ rfl (w.heap.size + 2) D (Sha.zeros 32) rfl rfl HDl.out (by simp [Sha.zeros]) HR.out ?_; intro w8 h8 hu8; have H8 := Lib.hid h8; have HX8 := Lib.hid (HX.out.upd_new hu8 (by omega)); clear h8 hu8))
      exact ret27 rfl (w.heap.size + 2) D HDl.out rfl H8.out rfl ⟨rfl, HX8.out⟩
end Go.Proofs.Ytapojpjmeadabaa

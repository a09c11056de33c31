/- Ofs, Radd, Items: several texts in one. -/
import Derived.Test.YtapojpjmeadabaaZAdds
import Derived.Test.YtapojpjmeadabaaZMac3
section
/- sum.Of, sacristanref05.Of; both Adds of the reference. -/
namespace Go.Proofs.Ytapojpjmeadabaa
open Go.RowKit
set_option linter.unusedVariables false
set_option linter.unusedSimpArgs false
attribute [local go_sem] lt_ext cell?_ext frozen?_ext shape?_ext

def atN (z : Int) : Nat := (IntKind.u64.wrap z).toNat
theorem atN_eq (z : Int) : (atN z : Int) = IntKind.u64.wrap z := by unfold atN; rw [IntKind.wrap_u64]; omega
theorem atN_le (z : Int) : atN z ≤ 18446744073709551615 := by have := atN_eq z; rw [IntKind.wrap_u64] at this; omega
/-- What a thing at a place comes to. -/
def ofD (key : List UInt8) (z : Int) (b : List UInt8) : List UInt8 := Sha.tag key (be (atN z) 8 ++ b)
theorem ofD_length (key : List UInt8) (z : Int) (b : List UInt8) : (ofD key z b).length = 32 := Sha.tag_length _ _
set_option maxRecDepth 100000 in
set_option maxHeartbeats 1000000 in
theorem of_any (kv bv : Value) (key b : List UInt8) (z : Int) (w : World) (hK : Bs w kv key) (hB : Bs w bv b) (hk : key.length ≤ 2147483648) (hb : b.length ≤ 1073741000) :
    Calls Try.prog 55 #[kv, .int .i64 z, bv] w fun e w' => e = .returned (Dig (ofD key z b)) ∧ Ext w w' := by
  obtain ⟨A0, cap0, rfl, _, _, _, _⟩ := hB.is
  have HK := Lib.hid hK
  have HB := Lib.hid hB
  clear hK hB
  obtain ⟨n, hn⟩ : ∃ n, atN z = n := ⟨_, rfl⟩
  have hn64 : n ≤ 18446744073709551615 := by rw [← hn]; exact atN_le z
  have hz : IntKind.u64.wrap z = (n : Int) := by rw [← hn, atN_eq]
  obtain ⟨D, hD⟩ : ∃ D, ofD key z b = D := ⟨_, rfl⟩
  obtain ⟨m, hm⟩ : ∃ m, be n 8 ++ b = m := ⟨_, rfl⟩
  have HDl : Hid (D.length = 32) := Lib.hid (by rw [← hD]; exact ofD_length _ _ _)
  have HT : Hid (Sha.tag key m = D) := Lib.hid (by rw [← hD, ← hm, ← hn]; rfl)
  have hml : m.length ≤ 1073741824 := by rw [← hm, List.length_append, be_length]; omega
  have HML := Lib.hid hml
  have HM : Hid (be n 8 ++ b = m) := Lib.hid hm
  rw [hD]
  clear hD hm hn hml
  have hR0 : Blk (w.alloc (.cells (row8 (Sha.zeros 32)) 27)) w.heap.size 27 (Sha.zeros 32) := heap_alloc_last w _
  have hw0 : Ext w (w.alloc (.cells (row8 (Sha.zeros 32)) 27)) := (Ext.refl w).alloc _
  have HR0 := Lib.hid hR0
  have HW0 := Lib.hid hw0
  have TA : True := trivial
  clear hR0 hw0
  go_enter Try.func55, Try.ntmps55
  go_wp2_with (first | (refine wpl_alloc_agg rfl 27 rfl _ zero27.1 ?_) | (go_at_call 95; clear TA; go_must (refine (cput_any n hn64 8 (by omega) (by omega) _).mono ?_; rintro e w1 ⟨v1, rfl, hn1⟩; obtain ⟨A1, c1, e1, _⟩ := hn1.bs.is; rw [be_length] at e1; subst e1; have HN1 := Lib.hid hn1; have TB : True := trivial; clear hn1)) | (go_at_call 47; clear TB; go_must (refine (tag_two D m (be n 8) b _ _ _ key w1 _ rfl HM HT (Rd.ext HK.out (HW0.out.trans HN1.out.ext)) (by have h := HN1.out.bs; exact h) (Rd.ext HB.out (HW0.out.trans HN1.out.ext)) hk HML.out).mono ?_; rintro e w2 ⟨rfl, hx2⟩; have HX2 := Lib.hid (HW0.out.trans (HN1.out.ext.trans hx2)); have HR2 := Lib.hid (Blk.ext HR0.out (HN1.out.ext.trans hx2)); clear hx2)) | (refine wpl_store27 rfl _ _ rfl w.heap.size D (Sha.zeros 32) rfl rfl HDl.out (by simp [Sha.zeros]) HR2.out ?_; intro w8 h8 hu8; have H8 := Lib.hid h8; have HX8 := Lib.hid (HX2.out.upd_new hu8 (Nat.le_refl _)); clear h8 hu8))
  exact ret27 rfl w.heap.size D HDl.out rfl H8.out rfl ⟨rfl, HX8.out⟩
set_option maxRecDepth 100000 in
set_option maxHeartbeats 1000000 in
theorem rof_any (kv bv : Value) (key b : List UInt8) (z : Int) (w : World) (hK : Bs w kv key) (hB : Bs w bv b) (hk : key.length ≤ 2147483648) (hb : b.length ≤ 1073741000) :
    Calls Try.prog 56 #[kv, .int .i64 z, bv] w fun e w' => e = .returned (Dig (ofD key z b)) ∧ Ext w w' := by
  have HK := Lib.hid hK
  have HB := Lib.hid hB
  clear hK hB
  obtain ⟨n, hn⟩ : ∃ n, atN z = n := ⟨_, rfl⟩
  have hn64 : n ≤ 18446744073709551615 := by rw [← hn]; exact atN_le z
  have hz : IntKind.u64.wrap z = (n : Int) := by rw [← hn, atN_eq]
  obtain ⟨D, hD⟩ : ∃ D, ofD key z b = D := ⟨_, rfl⟩
  have HDl : Hid (D.length = 32) := Lib.hid (by rw [← hD]; exact ofD_length _ _ _)
  have HT : Hid (Sha.tag key (be n 8 ++ b) = D) := Lib.hid (by rw [← hD, ← hn]; rfl)
  have HP : Hid ((be n 8).length = 8) := Lib.hid (be_length _ _)
  rw [hD]
  clear hD hn
  obtain ⟨p, hp⟩ : ∃ p, be n 8 = p := ⟨_, rfl⟩
  rw [hp] at HT HP
  have HPP := Lib.hid hp
  clear hp
  have hpl : p.length ≤ 8 := Nat.le_of_eq HP.out
  have hR0 : Blk (w.alloc (.cells (row8 (Sha.zeros 32)) 27)) w.heap.size 27 (Sha.zeros 32) := heap_alloc_last w _
  have hw0 : Ext w (w.alloc (.cells (row8 (Sha.zeros 32)) 27)) := (Ext.refl w).alloc _
  have HR0 := Lib.hid hR0
  have HW0 := Lib.hid hw0
  have TA : True := trivial
  clear hR0 hw0
  go_enter Try.func56, Try.ntmps56
  go_wp2_with (first | (refine wpl_alloc_agg rfl 27 rfl _ zero27.1 ?_) | (go_at_call 79; clear TA; go_must (refine (put_any n hn64 8 (by omega) (by omega) _).mono ?_; rintro e w1 ⟨v1, rfl, hn1⟩; rw [HPP.out] at hn1; have HN1 := Lib.hid hn1; have TB : True := trivial; clear hn1)) | (at_builtin; clear TB; go_must (refine wpList_append_bs rfl _ _ rfl _ rfl HN1.out.own _ rfl (Rd.ext HB.out (HW0.out.trans HN1.out.ext)) (by omega) ?_; intro v2 w2 ho2 hg2 hf2; have HN2 := Lib.hid (HN1.out.app ho2 hg2 hf2); have TC : True := trivial; clear ho2 hg2 hf2)) | (go_at_call 46; clear TC; go_must (refine (rtag_any _ _ key (p ++ b) _ (Rd.ext HK.out (HW0.out.trans HN2.out.ext)) HN2.out.bs hk (by rw [List.length_append]; omega)).mono ?_; rintro e w3 ⟨rfl, hx3⟩; rw [HT.out]; have HX2 := Lib.hid (HW0.out.trans (HN2.out.ext.trans hx3)); have HR2 := Lib.hid (Blk.ext HR0.out (HN2.out.ext.trans hx3)); clear hx3)) | (refine wpl_store27 rfl _ _ rfl w.heap.size D (Sha.zeros 32) rfl rfl HDl.out (by simp [Sha.zeros]) HR2.out ?_; intro w8 h8 hu8; have H8 := Lib.hid h8; have HX8 := Lib.hid (HX2.out.upd_new hu8 (Nat.le_refl _)); clear h8 hu8))
  exact ret27 rfl w.heap.size D HDl.out rfl H8.out rfl ⟨rfl, HX8.out⟩
end Go.Proofs.Ytapojpjmeadabaa
end

section
/- sacristanref05.Add. -/
namespace Go.Proofs.Ytapojpjmeadabaa
open Go.RowKit
set_option linter.unusedVariables false
set_option linter.unusedSimpArgs false
attribute [local go_sem] lt_ext cell?_ext frozen?_ext shape?_ext
attribute [local go_sem] u8_xor u8_or i8_mod u8_wrap

def rS (A B : List UInt8) (m : Nat) : Nat := spell (A.drop (32 - m)) + spell (B.drop (32 - m))
theorem spell_drop (A : List UInt8) (hA : A.length = 32) (m j : Nat) (hm : j + m = 31) : spell (A.drop (32 - (m + 1))) = (A.getD j 0).toNat * 256 ^ m + spell (A.drop (32 - m)) := by
  rw [show 32 - (m + 1) = j by omega, show 32 - m = j + 1 by omega, List.drop_eq_getElem_cons (by omega), spell_cons, List.length_drop, show A.length - (j + 1) = m by omega]
  simp [List.getElem?_eq_getElem (show j < A.length by omega)]
theorem rS_lt (A B : List UInt8) (hA : A.length = 32) (hB : B.length = 32) (m : Nat) (hm : m ≤ 32) : rS A B m < 2 * 256 ^ m := by
  have h1 := spell_lt (A.drop (32 - m))
  have h2 := spell_lt (B.drop (32 - m))
  rw [List.length_drop, show A.length - (32 - m) = m by omega] at h1
  rw [List.length_drop, show B.length - (32 - m) = m by omega] at h2
  unfold rS
  omega
def outR (A B : List UInt8) (m : Nat) : List UInt8 := Sha.zeros (32 - m) ++ be (rS A B m) m
theorem outR_length (A B : List UInt8) (m : Nat) (hm : m ≤ 32) : (outR A B m).length = 32 := by simp [outR, Sha.zeros, be_length]; omega
theorem rS_step (A B : List UInt8) (hA : A.length = 32) (hB : B.length = 32) (m j : Nat) (hm : j + m = 31) :
    rS A B (m + 1) / 256 ^ m = rS A B m / 256 ^ m + (A.getD j 0).toNat + (B.getD j 0).toNat ∧ rS A B (m + 1) % 256 ^ m = rS A B m % 256 ^ m := by
  have e : rS A B (m + 1) = rS A B m + ((A.getD j 0).toNat + (B.getD j 0).toNat) * 256 ^ m := by
    unfold rS
    rw [spell_drop A hA m j hm, spell_drop B hB m j hm, Nat.add_mul]
    omega
  rw [e, Nat.add_mul_div_right _ _ (Nat.pow_pos (by omega)), Nat.add_mul_mod_self_right]
  exact ⟨by omega, rfl⟩
theorem outR_next (A B : List UInt8) (hA : A.length = 32) (hB : B.length = 32) (m j : Nat) (hm : j + m = 31) :
    (outR A B m).set j (UInt8.ofNat (rS A B m / 256 ^ m + (A.getD j 0).toNat + (B.getD j 0).toNat)) = outR A B (m + 1) := by
  obtain ⟨h1, h2⟩ := rS_step A B hA hB m j hm
  unfold outR
  rw [← h1, be_congr (rS A B m) (rS A B (m + 1)) m h2.symm]
  exact be_set _ 32 m j (by omega)
theorem carry_next (A B : List UInt8) (hA : A.length = 32) (hB : B.length = 32) (m j : Nat) (hm : j + m = 31) :
    rS A B (m + 1) / 256 ^ (m + 1) = (rS A B m / 256 ^ m + (A.getD j 0).toNat + (B.getD j 0).toNat) / 256 := by
  rw [← (rS_step A B hA hB m j hm).1, Nat.pow_succ, Nat.div_div_eq_div_mul]
theorem carry_le (A B : List UInt8) (hA : A.length = 32) (hB : B.length = 32) (m : Nat) (hm : m ≤ 32) : rS A B m / 256 ^ m ≤ 1 := by
  have := rS_lt A B hA hB m hm
  have : rS A B m / 256 ^ m < 2 := Nat.div_lt_of_lt_mul (by rw [Nat.mul_comm]; exact this)
  omega
theorem w64_in (n : Int) (h : -9223372036854775808 ≤ n ∧ n ≤ 9223372036854775807) : wrap64 n = n := by unfold wrap64; omega
theorem wrap_sum (c a b S : Nat) (h : c + a + b = S) (hS : S ≤ 511) : wrap64 (wrap64 ((c : Int) + wrap64 (a : Int)) + wrap64 (b : Int)) = (S : Int) := by
  have e1 : wrap64 (a : Int) = a := w64_in _ (by omega)
  have e2 : wrap64 (b : Int) = b := w64_in _ (by omega)
  have e3 : wrap64 ((c : Int) + a) = c + a := w64_in _ (by omega)
  rw [e1, e2, e3, w64_in _ (by omega)]
  omega
theorem outR_done (A B : List UInt8) : outR A B 32 = addD A B := by
  unfold outR addD rS
  simp [Sha.zeros]
set_option maxRecDepth 100000 in
theorem exec_build27 {o : Oper} {ρ : Operand → Value} (ho : o.op = .build 27 #[]) (w : World) : (execOp ρ o).run Try.prog w = .ok (.value (Dig (Sha.zeros 32))) w := by
  unfold execOp
  rw [ho]
  go_simp
  rfl
set_option maxRecDepth 100000 in
set_option maxHeartbeats 1000000 in
theorem radd_any (A B : List UInt8) (hA : A.length = 32) (hB : B.length = 32) (w : World) :
    Calls Try.prog 98 #[Dig A, Dig B] w fun e w' => e = .returned (Dig (addD A B)) ∧ Ext w w' := by
  have HA := Lib.hid hA
  have HB := Lib.hid hB
  clear hA hB
  obtain ⟨D, hD⟩ : ∃ D, addD A B = D := ⟨_, rfl⟩
  have HDl : Hid (D.length = 32) := Lib.hid (by rw [← hD]; exact addD_length _ _)
  have HD : Hid (outR A B 32 = D) := Lib.hid (by rw [← hD]; exact outR_done A B)
  rw [hD]
  clear hD
  obtain ⟨⟨h0, h1, h2⟩, hx, hs⟩ := three_new w (.cells (row8 A) 27) (.cells (row8 B) 27) (.cells (row8 (Sha.zeros 32)) 27)
  go_enter Try.func98, Try.ntmps98
  have TA : True := trivial
  go_wp2_with (first | (clear TA; refine wpl_exec rfl (Dig (Sha.zeros 32)) (exec_build27 rfl _) ?_; generalize ((w.alloc (.cells (row8 A) 27)).alloc (.cells (row8 B) 27)).alloc (.cells (row8 (Sha.zeros 32)) 27) = w0 at *; have HP := Lib.hid (show Blk w0 w.heap.size 27 A from h0); have HQ := Lib.hid (show Blk w0 (w.heap.size + 1) 27 B from h1); have HR := Lib.hid (show Blk w0 (w.heap.size + 2) 27 (Sha.zeros 32) from h2); have HX := Lib.hid hx; have HS : Hid (w0.heap.size = w.heap.size + 3) := Lib.hid hs; clear h0 h1 h2 hx hs) | (refine wpl_alloc_agg rfl 27 rfl _ zero27.1 ?_) | (refine wpl_store27 rfl _ _ rfl w0.heap.size (Sha.zeros 32) (Sha.zeros 32) rfl rfl (by simp [Sha.zeros]) (by simp [Sha.zeros]) (heap_alloc_last w0 _) ?_; intro w2 h2 hu2; have H2 := Lib.hid h2; have HX2 := Lib.hid (((Ext.refl w0).alloc _).upd_new hu2 (Nat.le_refl _)); clear h2 hu2))
  have H3 : Hid (Blk w2 (w.heap.size + 3) 27 (Sha.zeros 32)) := Lib.hid (by have h := H2.out; rw [HS.out] at h; exact h)
  have HP2 := Lib.hid (Blk.ext HP.out HX2.out)
  have HQ2 := Lib.hid (Blk.ext HQ.out HX2.out)
  have HR2 := Lib.hid (Blk.ext HR.out HX2.out)
  have HXX := Lib.hid (HX.out.trans HX2.out)
  rw [HS.out]
  clear H2 HP HQ HR HX HX2 HS w0
  go_loopw [7, 6] (fun i c wr => ∃ (m cc : Nat), m ≤ 32 ∧ i = .int .i64 (31 - (m : Int)) ∧ c = .int .i64 (cc : Int) ∧ cc = rS A B m / 256 ^ m ∧ Blk wr w.heap.size 27 A ∧ Blk wr (w.heap.size + 1) 27 B ∧ Blk wr (w.heap.size + 2) 27 (Sha.zeros 32) ∧ Blk wr (w.heap.size + 3) 27 (outR A B m) ∧ Ext w wr) (fun i _ _ => (intOf i + 1).toNat)
  case atStart => exact ⟨0, 0, by omega, rfl, rfl, by simp [rS, List.drop_eq_nil_of_le (Nat.le_of_eq HA.out), List.drop_eq_nil_of_le (Nat.le_of_eq HB.out), spell], HP2.out, HQ2.out, HR2.out, H3.out, HXX.out⟩
  case round =>
    obtain ⟨m, cc, hm, rfl, rfl, hcc, hP, hQ, hR, hO, hx⟩ := hrel
    clear HP2 HQ2 HR2 H3 HXX w2
    have HP := Lib.hid hP
    have HQ := Lib.hid hQ
    have HR := Lib.hid hR
    have HO := Lib.hid hO
    have HX := Lib.hid hx
    have hl0 := hP.lt
    have hl1 := hQ.lt
    have hl3 := hO.lt
    have HCC := Lib.hid hcc
    have hcl : cc ≤ 1 := by rw [hcc]; exact carry_le A B HA.out HB.out m hm
    clear hP hQ hR hO hx hcc
    by_cases hlt : m < 32
    · obtain ⟨j, hj, hj32⟩ : ∃ j : Nat, (31 : Int) - (m : Int) = (j : Int) ∧ j < 32 := ⟨31 - m, by omega, by omega⟩
      have hjm : j + m = 31 := by omega
      have HJ := Lib.hid hjm
      have hca := HP.out.cell j (by have := HA.out; omega)
      have hcb := HQ.out.cell j (by have := HB.out; omega)
      have hco := HO.out.cell j (by rw [outR_length _ _ _ hm]; omega)
      have hfo := HO.out.frozen j
      have HN := Lib.hid (outR_next A B HA.out HB.out m j hjm)
      have HC := Lib.hid (carry_next A B HA.out HB.out m j hjm)
      rw [← HCC.out] at HN HC
      generalize A.getD j 0 = x at *
      generalize B.getD j 0 = y at *
      generalize (outR A B m).getD j 0 = old at *
      rw [hj]
      clear hj hjm
      have hx256 := x.toNat_lt
      have hy256 := y.toNat_lt
      go_wp2
      refine wp_region_m (by kernel_rfl) (by kernel_rfl) ?_; try simp only [Act.put, List.setIfInBounds_toArray, List.set_cons_succ, List.set_cons_zero]
      repeat (refine gq rfl rfl rfl rfl (fun K hK => ?_); go_big_quiet_op; refine hK _ ?_; clear hK K)
      refine gm_end_at rfl [] rfl (fun xs z hk => ?_)
      clear hk
      simp only [fillM, Act.put, List.setIfInBounds_toArray, List.set_cons_succ, List.set_cons_zero]
      have hxz : Ext wr (wr.ext z) := ext_ext wr z
      generalize wr.ext z = wz at *
      have HPz := Lib.hid (Blk.ext HP.out hxz)
      have HQz := Lib.hid (Blk.ext HQ.out hxz)
      have HRz := Lib.hid (Blk.ext HR.out hxz)
      have HOz := Lib.hid (Blk.ext HO.out hxz)
      have HXz := Lib.hid (HX.out.trans hxz)
      have hl3' := Nat.lt_of_lt_of_le hl3 hxz.size
      have hco' : wz.cell? ⟨w.heap.size + 3, j, none⟩ = some (B8 old) := (hxz.cell _ _ hl3).trans hco
      have hfo' := HOz.out.frozen j
      obtain ⟨S, hS⟩ : ∃ S, cc + x.toNat + y.toNat = S := ⟨_, rfl⟩
      have hSl : S ≤ 511 := by omega
      rw [hS] at HN HC
      have e1 : wrap64 (wrap64 ((cc : Int) + wrap64 (i8 x)) + wrap64 (i8 y)) = (S : Int) := wrap_sum cc x.toNat y.toNat S hS hSl
      rw [e1]
      have e2 : (S : Int) % 256 = i8 (UInt8.ofNat S) := by simp [i8]
      have HE2 := Lib.hid e2
      clear hxz hx256 hy256 hca hcb hco hfo hl0 hl1 hl3 HP HQ HR HO HX e1 e2 hS
      go_wp2
      go_roundw
      case rel =>
        refine ⟨m + 1, S / 256, by omega, by have := HJ.out; congr 1; omega, by congr 1, HC.out.symm, other_cell HPz.out (by omega), other_cell HQz.out (by omega), other_cell HRz.out (by omega), ?_, Ext.setCell_new HXz.out trivial (Nat.le_add_right _ _)⟩
        have h := HOz.out.set j (UInt8.ofNat S)
        rw [HN.out] at h
        have e : Value.int .u8 ((S : Int) % 256) = B8 (UInt8.ofNat S) := congrArg _ HE2.out
        rw [e]
        exact h
      case measure => (simp [intOf] <;> omega)
    · obtain rfl : m = 32 := by omega
      rw [HD.out] at HO
      go_wp2_with (first | (refine wpl_load27 rfl _ rfl (w.heap.size + 3) rfl D HDl.out HO.out ?_) | (refine wpl_store27 rfl _ _ rfl (w.heap.size + 2) D (Sha.zeros 32) rfl rfl HDl.out (by simp [Sha.zeros]) HR.out ?_; intro w8 h8 hu8; have H8 := Lib.hid h8; have HX8 := Lib.hid (HX.out.upd_new hu8 (by omega)); clear h8 hu8))
      exact ret27 rfl (w.heap.size + 2) D HDl.out rfl H8.out rfl ⟨rfl, HX8.out⟩
end Go.Proofs.Ytapojpjmeadabaa
end

section
/- Slices of Items; sacristanref05.Long, All. -/
namespace Go.Proofs.Ytapojpjmeadabaa
open Go.RowKit
set_option linter.unusedVariables false
set_option linter.unusedSimpArgs false
attribute [local go_sem] lt_ext cell?_ext frozen?_ext shape?_ext

structure It where
  u : Value
  z : Int
  b : List UInt8
instance : Inhabited It := ⟨⟨undef, 0, []⟩⟩
def itc : List It → List Value
  | [] => []
  | x :: r => .int .i64 x.z :: x.u :: itc r
theorem itc_append : ∀ a b : List It, itc (a ++ b) = itc a ++ itc b
  | [], b => rfl
  | x :: r, b => by simp [itc, itc_append r b]
theorem itc_length : ∀ a : List It, (itc a).length = a.length * 2
  | [] => rfl
  | x :: r => by simp [itc, itc_length r]; omega
theorem itc_get : ∀ (a : List It) (k : Nat), k < a.length → (itc a)[k * 2]? = some (.int .i64 (a.getD k default).z) ∧ (itc a)[k * 2 + 1]? = some (a.getD k default).u
  | [], k, h => absurd h (Nat.not_lt_zero _)
  | x :: r, 0, h => ⟨rfl, rfl⟩
  | x :: r, k + 1, h => by
    have := itc_get r k (by simpa using h)
    rw [show (k + 1) * 2 = k * 2 + 1 + 1 by omega]
    simpa [itc] using this
theorem itc_take : ∀ (a : List It) (k : Nat), itc (a.take k) = (itc a).take (k * 2)
  | [], k => by simp [itc]
  | x :: r, 0 => rfl
  | x :: r, k + 1 => by rw [show (k + 1) * 2 = k * 2 + 1 + 1 by omega]; simp [itc, itc_take r k]
theorem itc_drop : ∀ (a : List It) (k : Nat), itc (a.drop k) = (itc a).drop (k * 2)
  | [], k => by simp [itc]
  | x :: r, 0 => rfl
  | x :: r, k + 1 => by rw [show (k + 1) * 2 = k * 2 + 1 + 1 by omega]; simp [itc, itc_drop r k]
/-- A slice of Items, as it reads. -/
structure Its (w : World) (v : Value) (xs : List It) : Prop where
  rd : Rd w 2 v xs.length (itc xs)
  each : ∀ x ∈ xs, Bs w x.u x.b
theorem Its.ext {w w' : World} {v : Value} {xs : List It} (h : Its w v xs) (hx : Ext w w') : Its w' v xs := ⟨h.rd.ext hx, fun x hm => Rd.ext (h.each x hm) hx⟩
theorem It.mem {xs : List It} {k : Nat} (hk : k < xs.length) : xs.getD k default ∈ xs := by
  rw [List.getD_eq_getElem?_getD, List.getElem?_eq_getElem hk]; exact List.getElem_mem hk
/-- What all come to. -/
def allD (key : List UInt8) (xs : List It) : List UInt8 := xs.foldl (fun d x => addD d (ofD key x.z x.b)) (Sha.zeros 32)
theorem allD_length (key : List UInt8) (xs : List It) : (allD key xs).length = 32 := by
  have h : ∀ (xs : List It) (d : List UInt8), d.length = 32 → (xs.foldl (fun d x => addD d (ofD key x.z x.b)) d).length = 32 := by
    intro xs
    induction xs with
    | nil => intro d hd; exact hd
    | cons x r ih => intro d hd; exact ih _ (addD_length _ _)
  exact h xs _ (by simp [Sha.zeros])
theorem allD_next (key : List UInt8) (xs : List It) (k : Nat) (hk : k < xs.length) :
    allD key (xs.take (k + 1)) = addD (allD key (xs.take k)) (ofD key (xs.getD k default).z (xs.getD k default).b) := by
  unfold allD
  rw [List.take_succ_eq_append_getElem hk, List.foldl_append]
  simp [List.getD, hk]
/-- What reading the k-th Item's cells gives. -/
theorem Its.at_ {w : World} {v : Value} {xs : List It} (h : Its w v xs) (k : Nat) (hk : k < xs.length) :
    ∃ b o cap, v = .slice (some ⟨b, o, none⟩) xs.length cap ∧ b < w.heap.size ∧ w.cell? ⟨b, o + k * 2, none⟩ = some (.int .i64 (xs.getD k default).z) ∧ w.cell? ⟨b, o + k * 2 + 1, none⟩ = some (xs.getD k default).u := by
  obtain ⟨b, o, cap, h1, _, _, h4, h5⟩ := h.rd.pos (by omega)
  obtain ⟨g1, g2⟩ := itc_get xs k hk
  exact ⟨b, o, cap, h1, h4, h5 _ _ g1, by rw [Nat.add_assoc]; exact h5 _ _ g2⟩
/-- How long they are. -/
def longN (xs : List It) : Nat := xs.foldl (fun n x => n + 1 + x.b.length) 0
theorem longN_next (xs : List It) (k : Nat) (hk : k < xs.length) : longN (xs.take (k + 1)) = longN (xs.take k) + 1 + (xs.getD k default).b.length := by
  unfold longN
  rw [List.take_succ_eq_append_getElem hk, List.foldl_append]
  simp [List.getD, hk]
theorem longN_le (xs : List It) (k : Nat) : longN (xs.take k) ≤ longN xs := by
  have h : ∀ (b : List It) (n : Nat), n ≤ b.foldl (fun n x => n + 1 + x.b.length) n := by
    intro b
    induction b with
    | nil => intro n; exact Nat.le_refl _
    | cons x r ih => intro n; exact Nat.le_trans (show n ≤ n + 1 + x.b.length by omega) (ih _)
  conv => rhs; rw [← List.take_append_drop k xs]; unfold longN
  rw [List.foldl_append]
  exact h _ _
theorem longN_each (xs : List It) : ∀ x ∈ xs, x.b.length ≤ longN xs := by
  intro x hx
  obtain ⟨k, hk, rfl⟩ := List.getElem_of_mem hx
  have h1 := longN_next xs k hk
  have h2 := longN_le xs (k + 1)
  simp [List.getD, hk] at h1
  omega
theorem longN_len (xs : List It) : xs.length ≤ longN xs := by
  have h : ∀ (b : List It) (n : Nat), n + b.length ≤ b.foldl (fun n x => n + 1 + x.b.length) n := by
    intro b
    induction b with
    | nil => intro n; exact Nat.le_refl _
    | cons x r ih => intro n; have := ih (n + 1 + x.b.length); simp only [List.length_cons, List.foldl_cons]; omega
  have := h xs 0
  unfold longN
  omega
set_option maxRecDepth 100000 in
set_option maxHeartbeats 1000000 in
theorem long_any (v : Value) (xs : List It) (w : World) (hI : Its w v xs) (hle : longN xs ≤ 4294967296 * 4294967296 / 4) :
    Calls Try.prog 36 #[v] w fun e w' => e = .returned (.int .i64 (longN xs : Int)) ∧ w = w' := by
  obtain ⟨A, cap, rfl, hcap, hcm, _, _⟩ := hI.rd.is
  unfold maxLen at hcm
  have HI := Lib.hid hI
  clear hI
  obtain ⟨n, hn⟩ : ∃ n, longN xs = n := ⟨_, rfl⟩
  have HN := Lib.hid hn
  rw [hn] at hle ⊢
  clear hn
  go_enter Try.func36, Try.ntmps36
  go_wp2
  go_loop [4, 3] (fun i s => ∃ (k m : Nat), k ≤ xs.length ∧ i = .int .i64 k ∧ s = .int .i64 m ∧ m = longN (xs.take k)) (fun i _ => xs.length - (intOf i).toNat)
  case atStart => exact ⟨0, 0, by omega, rfl, rfl, rfl⟩
  case round =>
    obtain ⟨k, m, hk, rfl, rfl, hm⟩ := hrel
    by_cases hlt : k < xs.length
    · obtain ⟨b, o, cap', hA, hbl, hc0, hc1⟩ := HI.out.at_ k hlt
      injection hA with hA1 hA2 hA3
      subst hA1
      subst hA3
      have hN1 := longN_next xs k hlt
      have hle2 := longN_le xs (k + 1)
      have hB := HI.out.each _ (It.mem hlt)
      rw [HN.out, hN1, ← hm] at hle2
      rw [← hm] at hN1
      generalize xs.getD k default = x at *
      obtain ⟨A2, cap2, e2, _⟩ := hB.is
      rw [e2] at hc1
      have HN1 := Lib.hid hN1
      clear hB e2 hN1 hm
      go_wp2
      go_round
      case rel => exact ⟨k + 1, m + 1 + x.b.length, by omega, by go_num, by go_num, HN1.out.symm⟩
      case measure => simp [intOf]; omega
    · obtain rfl : k = xs.length := by omega
      rw [List.take_length, HN.out] at hm
      subst hm
      go_wp2
      go_ret
      exact ⟨rfl, rfl⟩
set_option maxRecDepth 100000 in
set_option maxHeartbeats 1000000 in
theorem rall_any (kv v : Value) (key : List UInt8) (xs : List It) (w : World) (hK : Bs w kv key) (hI : Its w v xs) (hk : key.length ≤ 2147483648) (hb : ∀ x ∈ xs, x.b.length ≤ 1073741000) :
    Calls Try.prog 58 #[kv, v] w fun e w' => e = .returned (Dig (allD key xs)) ∧ Ext w w' := by
  obtain ⟨A, cap, rfl, hcap, hcm, _, _⟩ := hI.rd.is
  unfold maxLen at hcm
  have HI := Lib.hid hI
  have HK := Lib.hid hK
  have HBL := Lib.hid hb
  clear hI hK hb
  obtain ⟨D, hD⟩ : ∃ D, allD key xs = D := ⟨_, rfl⟩
  have HD := Lib.hid hD
  have HDl : Hid (D.length = 32) := Lib.hid (by rw [← hD]; exact allD_length _ _)
  rw [hD]
  clear hD
  have TA : True := trivial
  go_enter Try.func58, Try.ntmps58
  go_wp2_with (first | (clear TA; refine wpl_exec rfl (Dig (Sha.zeros 32)) (exec_build27 rfl _) ?_; have hr : Blk (w.alloc (.cells (row8 (Sha.zeros 32)) 27)) w.heap.size 27 (Sha.zeros 32) := heap_alloc_last w _; have hx0 : Ext w (w.alloc (.cells (row8 (Sha.zeros 32)) 27)) := (Ext.refl w).alloc _; have hs0 : (w.alloc (.cells (row8 (Sha.zeros 32)) 27)).heap.size = w.heap.size + 1 := (by simp); generalize w.alloc (.cells (row8 (Sha.zeros 32)) 27) = w0 at *; have HR := Lib.hid hr; have HX := Lib.hid hx0; have HS := Lib.hid hs0; clear hr hx0 hs0) | (refine wpl_alloc_agg rfl 27 rfl _ zero27.1 ?_) | (refine wpl_store27 rfl _ _ rfl w0.heap.size (Sha.zeros 32) (Sha.zeros 32) rfl rfl (by simp [Sha.zeros]) (by simp [Sha.zeros]) (heap_alloc_last w0 _) ?_; intro w2 h2 hu2; have H2 := Lib.hid h2; have HX2 := Lib.hid (((Ext.refl w0).alloc _).upd_new hu2 (Nat.le_refl _)); clear h2 hu2))
  have HR2 := Lib.hid (Blk.ext HR.out HX2.out)
  have HXX := Lib.hid (HX.out.trans HX2.out)
  rw [HS.out] at H2 ⊢
  clear HR HX HX2 HS w0
  go_loopw [6] (fun i wr => ∃ k : Nat, k ≤ xs.length ∧ i = .int .i64 k ∧ Blk wr w.heap.size 27 (Sha.zeros 32) ∧ Blk wr (w.heap.size + 1) 27 (allD key (xs.take k)) ∧ Ext w wr) (fun i _ => xs.length - (intOf i).toNat)
  case atStart => exact ⟨0, by omega, rfl, HR2.out, H2.out, HXX.out⟩
  case round =>
    obtain ⟨k, hk1, rfl, hR, hO, hx⟩ := hrel
    clear HR2 H2 HXX w2
    have HR := Lib.hid hR
    have HO := Lib.hid hO
    have HX := Lib.hid hx
    have hl := hO.lt
    clear hR hO hx
    by_cases hlt : k < xs.length
    · have hIx := HI.out.ext HX.out
      obtain ⟨b, o, cap', hA, hbl, hc0, hc1⟩ := hIx.at_ k hlt
      injection hA with hA1 hA2 hA3
      subst hA1
      subst hA3
      have hB := hIx.each _ (It.mem hlt)
      have hbl1 := HBL.out _ (It.mem hlt)
      have HNX := Lib.hid (allD_next key xs k hlt)
      generalize xs.getD k default = x at *
      have HB := Lib.hid hB
      obtain ⟨T, hT⟩ : ∃ T, allD key (xs.take k) = T := ⟨_, rfl⟩
      have HTl : Hid (T.length = 32) := Lib.hid (by rw [← hT]; exact allD_length _ _)
      rw [hT] at HO HNX
      clear hB hT hIx
      go_wp2
      refine wp_region_mt 14 (by kernel_rfl) (by kernel_rfl) ?_
      try simp only [Act.put, List.setIfInBounds_toArray, List.set_cons_succ, List.set_cons_zero]
      simp only [List.take_succ_cons, List.take_zero]
      refine gx rfl rfl rfl rfl (Dig T) (fun y => exec_load27 (.tmp 5) rfl (w.heap.size + 1) rfl T HTl.out _ (Blk.ext HO.out (ext_ext wr y))) ?_
      simp only [Act.put, List.setIfInBounds_toArray, List.set_cons_succ, List.set_cons_zero]
      repeat (refine gq rfl rfl rfl rfl (fun K hK => ?_); go_big_quiet_op; refine hK _ ?_; clear hK K)
      refine gc rfl rfl rfl rfl 56 #[kv, .int .i64 x.z, x.u] (fun _ => by go_simp) (Dig (ofD key x.z x.b)) (fun y => rof_any kv x.u key x.b x.z _ (Rd.ext HK.out (HX.out.trans (ext_ext wr y))) (Rd.ext HB.out (ext_ext wr y)) hk hbl1) ?_
      simp only [Act.put, List.setIfInBounds_toArray, List.set_cons_succ, List.set_cons_zero]
      refine gc rfl rfl rfl rfl 98 #[Dig T, Dig (ofD key x.z x.b)] (fun _ => by go_simp) (Dig (addD T (ofD key x.z x.b))) (fun y => radd_any T (ofD key x.z x.b) HTl.out (ofD_length _ _ _) _) ?_
      simp only [Act.put, List.setIfInBounds_toArray, List.set_cons_succ, List.set_cons_zero]
      refine gm_end_at rfl [] rfl (fun xs' y hk' => ?_)
      clear hk'
      simp only [fillM, Act.put, List.setIfInBounds_toArray, List.set_cons_succ, List.set_cons_zero]
      simp only [List.drop_succ_cons, List.drop_zero]
      have hxy : Ext wr (wr.ext y) := ext_ext wr y
      generalize wr.ext y = wy at *
      have HRy := Lib.hid (Blk.ext HR.out hxy)
      have HXy := Lib.hid (HX.out.trans hxy)
      refine wpl_store27 rfl _ _ rfl (w.heap.size + 1) (addD T (ofD key x.z x.b)) T rfl rfl (addD_length _ _) HTl.out (Blk.ext HO.out hxy) ?_
      intro w3 h3 hu3
      rw [← HNX.out] at h3
      have H3 := Lib.hid h3
      have HU3 := Lib.hid hu3
      clear h3 hu3 hxy
      go_wp2
      go_roundw
      case rel => exact ⟨k + 1, by omega, by go_num, (HU3.out.old HRy.out.lt (by omega)).trans HRy.out, H3.out, HXy.out.upd_new HU3.out (by omega)⟩
      case measure => simp [intOf]; omega
    · obtain rfl : k = xs.length := by omega
      rw [List.take_length, HD.out] at HO
      go_wp2_with (first | (refine wpl_load27 rfl _ rfl (w.heap.size + 1) rfl D HDl.out HO.out ?_) | (refine wpl_store27 rfl _ _ rfl w.heap.size D (Sha.zeros 32) rfl rfl HDl.out (by simp [Sha.zeros]) HR.out ?_; intro w8 h8 hu8; have H8 := Lib.hid h8; have HX8 := Lib.hid (HX.out.upd_new hu8 (Nat.le_refl _)); clear h8 hu8))
      exact ret27 rfl w.heap.size D HDl.out rfl H8.out rfl ⟨rfl, HX8.out⟩
end Go.Proofs.Ytapojpjmeadabaa
end

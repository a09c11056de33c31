/- sacristanlaw03.MacBegins. -/
import Derived.Test.YtapojpjmeadabaaDerl
namespace Go.Proofs.Ytapojpjmeadabaa
open Go.RowKit
set_option linter.unusedVariables false
set_option linter.unusedSimpArgs false
attribute [local go_sem] lt_ext cell?_ext frozen?_ext shape?_ext

theorem dN_nat (a : Nat) (h : a ≤ 1024) : dN (a : Int) = a := by
  unfold dN
  by_cases h0 : (a : Int) ≤ 0
  · rw [if_pos h0]; omega
  · rw [if_neg h0, if_pos (by omega)]; omega
set_option maxRecDepth 100000 in
set_option maxHeartbeats 2000000 in
theorem begins_of (kv : Value) (key : List UInt8) (s : ByteArray) (a b : Nat) (ha : a < 256) (hb : b < 256) (hs : s.size ≤ maxLen) (w : World) (hK : Bs w kv key) :
    Calls Try.prog 15 #[kv, .string s, .int .u8 (a : Int), .int .u8 (b : Int)] w fun e w' => e = .returned (.bool true) ∧ Ext w w' := by
  obtain ⟨Ak, capk, rfl, hcapk, hcmk, _, _⟩ := hK.is
  unfold maxLen at hcmk hs
  have HK := Lib.hid hK
  clear hK
  by_cases h1 : 200 < key.length
  · skip
    go_enter Try.func15, Try.ntmps15
    go_wp2_with (go_at_call 45; go_must (refine (known3_any _).mono ?_; rintro e w2 ⟨rfl, hx2⟩; have HX2 := Lib.hid hx2; clear hx2))
    go_ret
    exact ⟨rfl, HX2.out⟩
  by_cases h2 : 100 < s.size
  · skip
    go_enter Try.func15, Try.ntmps15
    go_wp2_with (go_at_call 45; go_must (refine (known3_any _).mono ?_; rintro e w2 ⟨rfl, hx2⟩; have HX2 := Lib.hid hx2; clear hx2))
    go_ret
    exact ⟨rfl, HX2.out⟩
  obtain ⟨lab, hlab⟩ : ∃ lab, s.data.toList = lab := ⟨_, rfl⟩
  have hll : lab.length ≤ 100 := by rw [← hlab, Array.length_toList]; have e : s.data.size = s.size := rfl; omega
  have HLAB := Lib.hid hlab
  clear hlab
  obtain ⟨L, hL⟩ : ∃ L, drv key lab (dN (a : Int)) = L := ⟨_, rfl⟩
  obtain ⟨L2, hL2⟩ : ∃ L, drv key lab (dN ((a : Int) + (b : Int))) = L := ⟨_, rfl⟩
  have e2 : dN ((a : Int) + (b : Int)) = a + b := by rw [← Int.natCast_add]; exact dN_nat _ (by omega)
  have hl : L.length = a := by rw [← hL, drv_length]; exact dN_nat _ (by omega)
  have hl2 : L2.length = a + b := by rw [← hL2, drv_length]; exact e2
  have HT : Hid (decide (L2.take a = L) = true) := Lib.hid (by rw [← hL, ← hL2, e2, dN_nat a (by omega), drv_take _ _ _ _ (by omega)]; simp)
  have hle : a ≤ L2.length := by omega
  have HL := Lib.hid hL
  have HL2 := Lib.hid hL2
  have HLEN := Lib.hid hl
  have HLEN2 := Lib.hid hl2
  have T0 : True := trivial
  clear hL hL2 e2 hl hl2
  go_enter Try.func15, Try.ntmps15
  go_wp2_with (first | (go_at_call 52; clear T0; go_must (refine (derive_any L (a : Int) _ key lab s _ HL HK.out (by omega) HLAB (by omega)).mono ?_; rintro e w1 ⟨v1, rfl, hb1, hx1⟩; obtain ⟨A1, cap1, rfl, hcap1, hcm1, _, _⟩ := hb1.is; have HB1 := Lib.hid hb1; rw [HLEN.out] at hcap1 HB1; rw [HLEN.out]; have HX1 := Lib.hid hx1; have T1 : True := trivial; clear hb1 hx1)) | (go_at_call 52; clear T1; go_must (refine (derive_any L2 ((a : Int) + (b : Int)) _ key lab s _ HL2 (Rd.ext HK.out HX1.out) (by omega) HLAB (by omega)).mono ?_; rintro e w2 ⟨v2, rfl, hb2, hx2⟩; obtain ⟨A2, cap2, rfl, hcap2, hcm2, _, _⟩ := hb2.is; have HB2 := Lib.hid hb2; rw [HLEN2.out] at hcap2 HB2; rw [HLEN2.out]; have HX2 := Lib.hid (HX1.out.trans hx2); have HB12 := Lib.hid (Rd.ext HB1.out hx2); have HP := Lib.hid (Bs.pre HB2.out a hle); clear hb2 hx2)) | (go_at_call 49; go_must (refine (same_true _ _ (L2.take a) L _ HP.out HB12.out HT).mono ?_; rintro e w3 ⟨rfl, rfl⟩)) | (go_at_call 45; go_must (refine (known3_any _).mono ?_; rintro e w4 ⟨rfl, hx4⟩; have HX4 := Lib.hid (HX2.out.trans hx4); clear hx4)))
  go_ret
  exact ⟨rfl, HX4.out⟩
theorem begins_any (kv : Value) (key : List UInt8) (s : ByteArray) (a b : UInt8) (hs : s.size ≤ maxLen) (w : World) (hK : Bs w kv key) :
    Calls Try.prog 15 #[kv, .string s, B8 a, B8 b] w fun e w' => e = .returned (.bool true) ∧ Ext w w' := begins_of kv key s a.toNat b.toNat a.toNat_lt b.toNat_lt hs w hK
end Go.Proofs.Ytapojpjmeadabaa

/- sacristanlaw03.MacDerives, MacBegins. -/
import Derived.Test.YtapojpjmeadabaaDerv
namespace Go.Proofs.Ytapojpjmeadabaa
open Go.RowKit
set_option linter.unusedVariables false
set_option linter.unusedSimpArgs false
attribute [local go_sem] lt_ext cell?_ext frozen?_ext shape?_ext

theorem Bs.pre {w : World} {A : Option Addr} {n cap : Nat} {l : List UInt8} (h : Bs w (.slice A n cap) l) (k : Nat) (hk : k ≤ l.length) : Bs w (.slice A k cap) (l.take k) := by
  obtain ⟨A', cap', hv, h1, h2, h3, h4⟩ := h.is
  injection hv with e1 e2 e3
  subst e1; subst e3
  have hl : (l.take k).length = k := by simp; omega
  unfold Bs
  rw [hl]
  refine ⟨by simp; omega, A, cap, rfl, by omega, h2, h3, fun h0 => ?_⟩
  obtain ⟨b, o, ha, hb, hc⟩ := h4 (by omega)
  refine ⟨b, o, ha, hb, fun j u hj => hc j u ?_⟩
  rw [List.map_take, List.getElem?_take] at hj
  split at hj
  · exact hj
  · cases hj
theorem same_true (va vb : Value) (la lb : List UInt8) (w : World) (hA : Bs w va la) (hB : Bs w vb lb) (h : Hid (decide (la = lb) = true)) :
    Calls Try.prog 49 #[va, vb] w fun e w' => e = .returned (.bool true) ∧ w = w' := by
  have h1 := same_any va vb la lb w hA hB
  rw [h.out] at h1
  exact h1
def dN (n : Int) : Nat := if n ≤ 0 then 0 else if n ≤ 1024 then n.toNat else 1024
theorem derive_any (L : List UInt8) (n : Int) (kv : Value) (key lab : List UInt8) (s : ByteArray) (w : World) (hL : Hid (drv key lab (dN n) = L)) (hK : Bs w kv key) (hk : key.length ≤ 2147483648) (HLAB : Hid (s.data.toList = lab)) (hlab : lab.length ≤ 1000) :
    Calls Try.prog 52 #[kv, .string s, .int .i64 n] w fun e w' => ∃ v, e = .returned v ∧ Bs w' v L ∧ Ext w w' := by
  have h := hL.out
  unfold dN at h
  by_cases h0 : n ≤ 0
  · rw [if_pos h0] at h
    subst h
    exact derive_neg kv key lab s n h0 w hK hk HLAB hlab
  · rw [if_neg h0] at h
    by_cases h1 : n ≤ 1024
    · rw [if_pos h1] at h
      obtain ⟨N, rfl⟩ : ∃ N : Nat, n = N := ⟨n.toNat, by omega⟩
      rw [Int.toNat_natCast] at h
      subst h
      exact derive_in kv key lab s N (by omega) (by omega) w hK hk HLAB hlab
    · rw [if_neg h1] at h
      subst h
      exact derive_big kv key lab s n (by omega) w hK hk HLAB hlab
theorem rderive_any (L : List UInt8) (n : Int) (kv : Value) (key lab : List UInt8) (s : ByteArray) (w : World) (hL : Hid (drv key lab (dN n) = L)) (hK : Bs w kv key) (hk : key.length ≤ 2147483648) (HLAB : Hid (s.data.toList = lab)) (hlab : lab.length ≤ 1000) :
    Calls Try.prog 53 #[kv, .string s, .int .i64 n] w fun e w' => ∃ v, e = .returned v ∧ Bs w' v L ∧ Ext w w' := by
  have h := hL.out
  unfold dN at h
  by_cases h0 : n ≤ 0
  · rw [if_pos h0] at h
    subst h
    exact rderive_neg kv key lab s n h0 w hK hk HLAB hlab
  · rw [if_neg h0] at h
    by_cases h1 : n ≤ 1024
    · rw [if_pos h1] at h
      obtain ⟨N, rfl⟩ : ∃ N : Nat, n = N := ⟨n.toNat, by omega⟩
      rw [Int.toNat_natCast] at h
      subst h
      exact rderive_in kv key lab s N (by omega) (by omega) w hK hk HLAB hlab
    · rw [if_neg h1] at h
      subst h
      exact rderive_big kv key lab s n (by omega) w hK hk HLAB hlab
set_option maxRecDepth 100000 in
set_option maxHeartbeats 2000000 in
theorem derives_any (kv : Value) (key : List UInt8) (s : ByteArray) (n : Int) (hn0 : -9223372036854775808 ≤ n) (hn1 : n ≤ 9223372036854775807) (hs : s.size ≤ maxLen) (w : World) (hK : Bs w kv key) :
    Calls Try.prog 14 #[kv, .string s, .int .i64 n] w fun e w' => e = .returned (.bool true) ∧ Ext w w' := by
  obtain ⟨Ak, capk, rfl, hcapk, hcmk, _, _⟩ := hK.is
  unfold maxLen at hcmk hs
  have HK := Lib.hid hK
  clear hK
  by_cases h1 : 200 < key.length
  · skip
    go_enter Try.func14, Try.ntmps14
    go_wp2_with (go_at_call 45; go_must (refine (known3_any _).mono ?_; rintro e w2 ⟨rfl, hx2⟩; have HX2 := Lib.hid hx2; clear hx2))
    go_ret
    exact ⟨rfl, HX2.out⟩
  by_cases h2 : 100 < s.size
  · skip
    go_enter Try.func14, Try.ntmps14
    go_wp2_with (go_at_call 45; go_must (refine (known3_any _).mono ?_; rintro e w2 ⟨rfl, hx2⟩; have HX2 := Lib.hid hx2; clear hx2))
    go_ret
    exact ⟨rfl, HX2.out⟩
  obtain ⟨lab, hlab⟩ : ∃ lab, s.data.toList = lab := ⟨_, rfl⟩
  have hll : lab.length ≤ 100 := by rw [← hlab, Array.length_toList]; have e : s.data.size = s.size := rfl; omega
  have HLAB := Lib.hid hlab
  clear hlab
  by_cases h34 : 400 < n ∧ n < 1000
  · obtain ⟨h3, h4⟩ := h34
    go_enter Try.func14, Try.ntmps14
    go_wp2_with (go_at_call 45; go_must (refine (known3_any _).mono ?_; rintro e w2 ⟨rfl, hx2⟩; have HX2 := Lib.hid hx2; clear hx2))
    go_ret
    exact ⟨rfl, HX2.out⟩
  by_cases h3 : 1000 ≤ n
  · have h4 : ¬ n < 1000 := by omega
    have h40 : 400 < n := by omega
    clear h34
    obtain ⟨L, hL⟩ : ∃ L, drv key lab (dN n) = L := ⟨_, rfl⟩
    obtain ⟨L6, hL6⟩ : ∃ L, drv key lab (dN 64) = L := ⟨_, rfl⟩
    have hd : 64 ≤ dN n := by unfold dN; rw [if_neg (by omega)]; split <;> omega
    have hT : L.take 64 = L6 := by rw [← hL, ← hL6, drv_take _ _ _ _ hd]; rfl
    have hlen : L.length = dN n := by rw [← hL]; exact drv_length _ _ _
    have hl64 : 64 ≤ L.length := by omega
    have HT : Hid (decide (L.take 64 = L6) = true) := Lib.hid (by simp [hT])
    have HL := Lib.hid hL
    have HL6 := Lib.hid hL6
    have T0 : True := trivial
    by_cases h5 : 1024 < n
    · have hlen2 : L.length = 1024 := by rw [hlen]; unfold dN; rw [if_neg (by omega), if_neg (by omega)]
      have HLEN := Lib.hid hlen2
      clear hL hL6 hd hT hlen hlen2
      go_enter Try.func14, Try.ntmps14
      go_wp2_with (first | (go_at_call 52; clear T0; go_must (refine (derive_any L n _ key lab s _ HL HK.out (by omega) HLAB (by omega)).mono ?_; rintro e w1 ⟨v1, rfl, hb1, hx1⟩; obtain ⟨A1, cap1, rfl, hcap1, hcm1, _, _⟩ := hb1.is; have HB1 := Lib.hid hb1; rw [HLEN.out] at hcap1 HB1; rw [HLEN.out]; have HX1 := Lib.hid hx1; have T1 : True := trivial; clear hb1 hx1)) | (go_at_call 52; clear T1; go_must (refine (derive_any L6 64 _ key lab s _ HL6 (Rd.ext HK.out HX1.out) (by omega) HLAB (by omega)).mono ?_; rintro e w2 ⟨v2, rfl, hb2, hx2⟩; have HB2 := Lib.hid hb2; have HX2 := Lib.hid (HX1.out.trans hx2); have HB12 := Lib.hid (Bs.pre (Rd.ext HB1.out hx2) 64 hl64); clear hb2 hx2)) | (go_at_call 49; go_must (refine (same_true _ _ (L.take 64) L6 _ HB12.out HB2.out HT).mono ?_; rintro e w3 ⟨rfl, rfl⟩)) | (go_at_call 45; go_must (refine (known3_any _).mono ?_; rintro e w4 ⟨rfl, hx4⟩; have HX4 := Lib.hid (HX2.out.trans hx4); clear hx4)))
      go_ret
      exact ⟨rfl, HX4.out⟩
    · obtain ⟨N, rfl⟩ : ∃ N : Nat, n = (N : Int) := ⟨n.toNat, by omega⟩
      have hlen2 : L.length = N := by rw [hlen]; unfold dN; rw [if_neg (by omega), if_pos (by omega)]; omega
      have HLEN := Lib.hid hlen2
      clear hL hL6 hd hT hlen hlen2
      go_enter Try.func14, Try.ntmps14
      go_wp2_with (first | (go_at_call 52; clear T0; go_must (refine (derive_any L N _ key lab s _ HL HK.out (by omega) HLAB (by omega)).mono ?_; rintro e w1 ⟨v1, rfl, hb1, hx1⟩; obtain ⟨A1, cap1, rfl, hcap1, hcm1, _, _⟩ := hb1.is; have HB1 := Lib.hid hb1; rw [HLEN.out] at hcap1 HB1; rw [HLEN.out]; have HX1 := Lib.hid hx1; have T1 : True := trivial; clear hb1 hx1)) | (go_at_call 52; clear T1; go_must (refine (derive_any L6 64 _ key lab s _ HL6 (Rd.ext HK.out HX1.out) (by omega) HLAB (by omega)).mono ?_; rintro e w2 ⟨v2, rfl, hb2, hx2⟩; have HB2 := Lib.hid hb2; have HX2 := Lib.hid (HX1.out.trans hx2); have HB12 := Lib.hid (Bs.pre (Rd.ext HB1.out hx2) 64 hl64); clear hb2 hx2)) | (go_at_call 49; go_must (refine (same_true _ _ (L.take 64) L6 _ HB12.out HB2.out HT).mono ?_; rintro e w3 ⟨rfl, rfl⟩)) | (go_at_call 45; go_must (refine (known3_any _).mono ?_; rintro e w4 ⟨rfl, hx4⟩; have HX4 := Lib.hid (HX2.out.trans hx4); clear hx4)))
      go_ret
      exact ⟨rfl, HX4.out⟩
  · obtain ⟨L, hL⟩ : ∃ L, drv key lab (dN n) = L := ⟨_, rfl⟩
    have hn4 : ¬ 400 < n := by omega
    have HL := Lib.hid hL
    clear hL h34
    go_enter Try.func14, Try.ntmps14
    go_wp2_with (first | (go_at_call 52; go_must (refine (derive_any L n _ key lab s _ HL HK.out (by omega) HLAB (by omega)).mono ?_; rintro e w1 ⟨v1, rfl, hb1, hx1⟩; have HB1 := Lib.hid hb1; have HX1 := Lib.hid hx1; clear hb1 hx1)) | (go_at_call 53; go_must (refine (rderive_any L n _ key lab s _ HL (Rd.ext HK.out HX1.out) (by omega) HLAB (by omega)).mono ?_; rintro e w2 ⟨v2, rfl, hb2, hx2⟩; have HB2 := Lib.hid hb2; have HX2 := Lib.hid (HX1.out.trans hx2); have HB12 := Lib.hid (Rd.ext HB1.out hx2); clear hb2 hx2)) | (go_at_call 49; go_must (refine (same_true _ _ L L _ HB12.out HB2.out (Lib.hid (by simp))).mono ?_; rintro e w3 ⟨rfl, rfl⟩)) | (go_at_call 45; go_must (refine (known3_any _).mono ?_; rintro e w4 ⟨rfl, hx4⟩; have HX4 := Lib.hid (HX2.out.trans hx4); clear hx4)))
    go_ret
    exact ⟨rfl, HX4.out⟩
end Go.Proofs.Ytapojpjmeadabaa

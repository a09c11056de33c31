/- sacristanlaw03.MacChecks: a tag is checked by its key. -/
import Derived.Test.YtapojpjmeadabaaKnown3
namespace Go.Proofs.Ytapojpjmeadabaa
open Go.RowKit
set_option linter.unusedVariables false
set_option linter.unusedSimpArgs false
attribute [local go_sem] lt_ext cell?_ext frozen?_ext shape?_ext
attribute [local go_sem] u8_xor u8_or i8_mod u8_wrap

set_option maxRecDepth 100000 in
set_option maxHeartbeats 2000000 in
theorem checks_of (kv mv : Value) (key m : List UInt8) (at_ bit : Nat) (ha : at_ < 256) (hb : bit < 256) (w : World) (hK : Bs w kv key) (hM : Bs w mv m) :
    Calls Try.prog 11 #[kv, mv, .int .u8 (at_ : Int), .int .u8 (bit : Int)] w fun e w' => e = .returned (.bool true) ∧ Ext w w' := by
  obtain ⟨Ak, capk, rfl, hcapk, hcmk, _, _⟩ := hK.is
  obtain ⟨Am, capm, rfl, hcapm, hcmm, _, _⟩ := hM.is
  unfold maxLen at hcmk hcmm
  have HK := Lib.hid hK
  have HM := Lib.hid hM
  clear hK hM
  by_cases h1 : 200 < key.length
  · skip
    go_enter Try.func11, Try.ntmps11
    go_wp2_with (go_at_call 45; go_must (refine (known3_any _).mono ?_; rintro e w2 ⟨rfl, hx2⟩; have HX2 := Lib.hid hx2; clear hx2))
    go_ret
    exact ⟨rfl, HX2.out⟩
  by_cases h2 : 500 < m.length
  · skip
    go_enter Try.func11, Try.ntmps11
    go_wp2_with (go_at_call 45; go_must (refine (known3_any _).mono ?_; rintro e w2 ⟨rfl, hx2⟩; have HX2 := Lib.hid hx2; clear hx2))
    go_ret
    exact ⟨rfl, HX2.out⟩
  obtain ⟨D, hD⟩ : ∃ D, Sha.tag key m = D := ⟨_, rfl⟩
  have hDl : D.length = 32 := by rw [← hD]; exact Sha.tag_length _ _
  have HDl := Lib.hid hDl
  have HD := Lib.hid hD
  clear hD hDl
  obtain ⟨p, hp, hp32⟩ : ∃ p : Nat, (at_ : Int) % 32 = (p : Int) ∧ p < 32 := ⟨at_ % 32, by omega, by omega⟩
  obtain ⟨q, hq, hq8⟩ : ∃ q : Nat, (bit : Int) % 8 = (q : Int) ∧ q < 8 := ⟨bit % 8, by omega, by omega⟩
  obtain ⟨x, hx⟩ : ∃ x, D.getD p 0 = x := ⟨_, rfl⟩
  obtain ⟨y, hy⟩ : ∃ y : UInt8, y = UInt8.ofNat (2 ^ q) := ⟨_, rfl⟩
  have hsh : (2 : Int) ^ q % 256 = i8 y := by
    rw [hy]
    rcases (show q = 0 ∨ q = 1 ∨ q = 2 ∨ q = 3 ∨ q = 4 ∨ q = 5 ∨ q = 6 ∨ q = 7 by omega) with h | h | h | h | h | h | h | h <;> subst h <;> rfl
  have hy0 : y ≠ 0 := by
    rw [hy]
    rcases (show q = 0 ∨ q = 1 ∨ q = 2 ∨ q = 3 ∨ q = 4 ∨ q = 5 ∨ q = 6 ∨ q = 7 by omega) with h | h | h | h | h | h | h | h <;> subst h <;> decide
  obtain ⟨D', hD'⟩ : ∃ D', D.set p (x ^^^ y) = D' := ⟨_, rfl⟩
  have HN2 : Hid (decide (D = D') = false) := Lib.hid (by
    simp only [decide_eq_false_iff_not]
    intro e
    have h1 := congrArg (fun l => l.getD p 0) e
    simp only [← hD', hx] at h1
    simp [List.getD, HDl.out, hp32] at h1
    have h2 := congrArg (x ^^^ ·) h1
    simp [← UInt8.xor_assoc] at h2
    exact hy0 h2.symm)
  have HDl2 : Hid (D'.length = 32) := Lib.hid (by rw [← hD', List.length_set]; exact HDl.out)
  have HXE := Lib.hid hx
  have HDD := Lib.hid hD'
  clear hx hD' hy hy0
  have HNE : Hid (decide (D = D.take 31) = false) := Lib.hid (by
    simp only [decide_eq_false_iff_not]
    intro e
    have := congrArg List.length e
    rw [List.length_take, HDl.out] at this
    omega)
  go_enter Try.func11, Try.ntmps11
  go_wp2_with (first | (go_at_call 47; go_must (refine (tag_one D m _ _ key _ _ (by simp) HD HK.out HM.out (by omega) (by omega)).mono ?_; rintro e w1 ⟨rfl, hx1⟩; have HX1 := Lib.hid hx1; have HS1 := Lib.hid hx1.size; clear hx1)) | (refine wpl_alloc_agg rfl 27 rfl _ zero27.1 ?_) | (refine wpl_store27 rfl _ _ rfl w1.heap.size D (Sha.zeros 32) rfl rfl HDl.out (by simp [Sha.zeros]) (heap_alloc_last w1 _) ?_; intro w2 h2 hu2; have H2 : Hid (Blk w2 w1.heap.size 27 D) := Lib.hid h2; have hs2 : w1.heap.size < w2.heap.size := H2.out.lt; have HX2 := Lib.hid (HX1.out.trans (((Ext.refl w1).alloc _).upd_new hu2 (Nat.le_refl _))); have T0 : True := trivial; clear h2 hu2) | (go_at_call 48; clear T0; go_must (refine (check_one D m D _ _ _ key _ _ rfl true HD (Lib.hid (by simp)) (Rd.ext HK.out HX2.out) (Blk.whole H2.out 32 32 HDl.out.symm (Nat.le_refl _) (by decide)) (Rd.ext HM.out HX2.out) (by omega) (by omega)).mono ?_; rintro e w3 ⟨rfl, hx3⟩; have HX3 := Lib.hid (HX2.out.trans hx3); have H3 := Lib.hid (Blk.ext H2.out hx3); have T1 : True := trivial; clear hx3)) | (go_at_call 48; clear T1; go_must (refine (check_one D m (D.take 31) _ _ _ key _ _ rfl false HD HNE (Rd.ext HK.out HX3.out) (Blk.bs H3.out 0 31 32 (by rw [HDl.out]; decide) (by decide) (by decide)) (Rd.ext HM.out HX3.out) (by omega) (by omega)).mono ?_; rintro e w4 ⟨rfl, hx4⟩; have HX4 := Lib.hid (HX3.out.trans hx4); have h4 := Blk.ext H3.out hx4; have H4 := Lib.hid h4; have hc4 := h4.cell p (by rw [HDl.out]; exact hp32); have hf4 := h4.frozen p; have hs4 := h4.lt; have T2 : True := trivial; clear hx4 h4; rw [HXE.out] at hc4)) | (go_at_call 48; clear T2; go_must (have h5 := H4.out.set p (x ^^^ y); rw [HDD.out] at h5; refine (check_one D m D' _ _ _ key _ _ (by simp) false HD HN2 (Rd.ext HK.out (Ext.setCell_new HX4.out trivial HS1.out)) (Blk.whole h5 32 32 HDl2.out.symm (Nat.le_refl _) (by decide)) (Rd.ext HM.out (Ext.setCell_new HX4.out trivial HS1.out)) (by omega) (by omega)).mono ?_; rintro e w6 ⟨rfl, hx6⟩; have HX6 := Lib.hid ((Ext.setCell_new HX4.out trivial HS1.out).trans hx6); clear hx6 h5)) | (go_at_call 45; go_must (refine (known3_any _).mono ?_; rintro e w7 ⟨rfl, hx7⟩; have HX7 := Lib.hid (HX6.out.trans hx7); clear hx7)))
  go_ret
  exact ⟨rfl, HX7.out⟩
theorem checks_any (kv mv : Value) (key m : List UInt8) (a b : UInt8) (w : World) (hK : Bs w kv key) (hM : Bs w mv m) :
    Calls Try.prog 11 #[kv, mv, B8 a, B8 b] w fun e w' => e = .returned (.bool true) ∧ Ext w w' := checks_of kv mv key m a.toNat b.toNat a.toNat_lt b.toNat_lt w hK hM
end Go.Proofs.Ytapojpjmeadabaa

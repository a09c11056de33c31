/- sacristanlaw05.SumOfs. -/
import Derived.Test.YtapojpjmeadabaaKnown5
namespace Go.Proofs.Ytapojpjmeadabaa
open Go.RowKit
set_option linter.unusedVariables false
set_option linter.unusedSimpArgs false
attribute [local go_sem] lt_ext cell?_ext frozen?_ext shape?_ext

theorem longN_bound (xs : List It) (B : Nat) (h : ∀ x ∈ xs, x.b.length ≤ B) : longN xs ≤ xs.length * (B + 1) := by
  have key : ∀ (b : List It) (n : Nat), (∀ x ∈ b, x.b.length ≤ B) → b.foldl (fun n x => n + 1 + x.b.length) n ≤ n + b.length * (B + 1) := by
    intro b
    induction b with
    | nil => intro n _; simp
    | cons x r ih =>
      intro n hb
      have h1 := hb x (by simp)
      have h2 := ih (n + 1 + x.b.length) (fun y hy => hb y (by simp [hy]))
      simp only [List.foldl_cons, List.length_cons, Nat.add_mul] at h2 ⊢
      omega
  have := key xs 0 h
  unfold longN
  omega
theorem its_small {xs : List It} (hz : ∀ x ∈ xs, x.b.length ≤ 140737488355328) (hl : xs.length ≤ 20) : longN xs ≤ 4294967296 * 4294967296 / 4 := by
  have h1 := longN_bound xs 140737488355328 hz
  have h2 : xs.length * (140737488355328 + 1) ≤ 20 * (140737488355328 + 1) := Nat.mul_le_mul_right _ hl
  omega
set_option maxRecDepth 100000 in
set_option maxHeartbeats 2000000 in
theorem sumofs_any (kv bv lv : Value) (key b : List UInt8) (z : Int) (xs : List It) (w : World) (hK : Bs w kv key) (hB : Bs w bv b) (hI : Its w lv xs) (hz : ∀ x ∈ xs, x.b.length ≤ 140737488355328) :
    Calls Try.prog 17 #[kv, .int .i64 z, bv, lv] w fun e w' => e = .returned (.bool true) ∧ Ext w w' := by
  obtain ⟨Ak, capk, rfl, hcapk, hcmk, _, _⟩ := hK.is
  obtain ⟨Ab, capb, rfl, hcapb, hcmb, _, _⟩ := hB.is
  obtain ⟨Al, capl, rfl, hcapl, hcml, _, _⟩ := hI.rd.is
  unfold maxLen at hcmk hcmb hcml
  obtain ⟨n, hn⟩ : ∃ n, longN xs = n := ⟨_, rfl⟩
  have HN := Lib.hid hn
  have HK := Lib.hid hK
  have HB := Lib.hid hB
  have HI := Lib.hid hI
  have HE := Lib.hid (longN_each xs)
  have HZ := Lib.hid hz
  clear hK hB hI hn hz
  by_cases h1 : 100 < key.length
  · skip
    go_enter Try.func17, Try.ntmps17
    go_wp2_with (first | (go_at_call 36; go_must (refine (long_any _ xs _ HI.out (its_small HZ.out (by omega))).mono ?_; rintro e w1 ⟨rfl, rfl⟩; rw [HN.out])) | (go_at_call 54; go_must (refine (known5_any _).mono ?_; rintro e w2 ⟨rfl, hx2⟩; have HX2 := Lib.hid hx2; clear hx2)))
    go_ret
    exact ⟨rfl, HX2.out⟩
  by_cases h2 : 300 < b.length
  · skip
    go_enter Try.func17, Try.ntmps17
    go_wp2_with (first | (go_at_call 36; go_must (refine (long_any _ xs _ HI.out (its_small HZ.out (by omega))).mono ?_; rintro e w1 ⟨rfl, rfl⟩; rw [HN.out])) | (go_at_call 54; go_must (refine (known5_any _).mono ?_; rintro e w2 ⟨rfl, hx2⟩; have HX2 := Lib.hid hx2; clear hx2)))
    go_ret
    exact ⟨rfl, HX2.out⟩
  by_cases h3 : 20 < xs.length
  · skip
    go_enter Try.func17, Try.ntmps17
    go_wp2_with (first | (go_at_call 36; go_must (refine (long_any _ xs _ HI.out (its_small HZ.out (by omega))).mono ?_; rintro e w1 ⟨rfl, rfl⟩; rw [HN.out])) | (go_at_call 54; go_must (refine (known5_any _).mono ?_; rintro e w2 ⟨rfl, hx2⟩; have HX2 := Lib.hid hx2; clear hx2)))
    go_ret
    exact ⟨rfl, HX2.out⟩
  by_cases h4 : 600 < n
  · skip
    go_enter Try.func17, Try.ntmps17
    go_wp2_with (first | (go_at_call 36; go_must (refine (long_any _ xs _ HI.out (its_small HZ.out (by omega))).mono ?_; rintro e w1 ⟨rfl, rfl⟩; rw [HN.out])) | (go_at_call 54; go_must (refine (known5_any _).mono ?_; rintro e w2 ⟨rfl, hx2⟩; have HX2 := Lib.hid hx2; clear hx2)))
    go_ret
    exact ⟨rfl, HX2.out⟩
  have hb : ∀ x ∈ xs, x.b.length ≤ 1073741000 := fun x hx => by have := HE.out x hx; rw [HN.out] at this; omega
  have HBB := Lib.hid hb
  obtain ⟨D, hD⟩ : ∃ D, ofD key z b = D := ⟨_, rfl⟩
  obtain ⟨S, hS⟩ : ∃ S, allD key xs = S := ⟨_, rfl⟩
  have HDl : Hid (D.length = 32) := Lib.hid (by rw [← hD]; exact ofD_length _ _ _)
  have HSl : Hid (S.length = 32) := Lib.hid (by rw [← hS]; exact allD_length _ _)
  have HD := Lib.hid hD
  have HS := Lib.hid hS
  clear hb hD hS
  go_enter Try.func17, Try.ntmps17
  go_wp2_with (first | (go_at_call 36; go_must (refine (long_any _ xs _ HI.out (its_small HZ.out (by omega))).mono ?_; rintro e w1 ⟨rfl, rfl⟩; rw [HN.out])) | (go_at_call 55; go_must (refine (of_any _ _ key b z _ HK.out HB.out (by omega) (by omega)).mono ?_; rintro e w1 ⟨rfl, hx1⟩; rw [HD.out]; have HX1 := Lib.hid hx1; clear hx1)) | (go_at_call 56; go_must (refine (rof_any _ _ key b z _ (Rd.ext HK.out HX1.out) (Rd.ext HB.out HX1.out) (by omega) (by omega)).mono ?_; rintro e w2 ⟨rfl, hx2⟩; rw [HD.out]; have HX2 := Lib.hid (HX1.out.trans hx2); clear hx2)) | (refine wpl_v rfl _ (exec_eq27 (.tmp 31) (.tmp 35) _ rfl D D rfl rfl HDl.out HDl.out _) ?_; simp only [decide_true]) | (go_at_call 57; go_must (refine (all_any _ _ key xs _ (Rd.ext HK.out HX2.out) (HI.out.ext HX2.out) (by omega) HBB.out).mono ?_; rintro e w3 ⟨rfl, hx3⟩; rw [HS.out]; have HX3 := Lib.hid (HX2.out.trans hx3); clear hx3)) | (go_at_call 58; go_must (refine (rall_any _ _ key xs _ (Rd.ext HK.out HX3.out) (HI.out.ext HX3.out) (by omega) HBB.out).mono ?_; rintro e w4 ⟨rfl, hx4⟩; rw [HS.out]; have HX4 := Lib.hid (HX3.out.trans hx4); clear hx4)) | (refine wpl_v rfl _ (exec_eq27 (.tmp 40) (.tmp 43) _ rfl S S rfl rfl HSl.out HSl.out _) ?_; simp only [decide_true]) | (go_at_call 54; go_must (refine (known5_any _).mono ?_; rintro e w5 ⟨rfl, hx5⟩; have HX5 := Lib.hid (HX4.out.trans hx5); clear hx5)))
  go_ret
  exact ⟨rfl, HX5.out⟩
end Go.Proofs.Ytapojpjmeadabaa

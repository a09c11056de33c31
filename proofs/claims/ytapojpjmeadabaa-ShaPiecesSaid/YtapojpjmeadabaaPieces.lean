/- sacristanlaw02.ShaPieces: a hash told piece by piece is the hash of the whole. -/
import Derived.Test.YtapojpjmeadabaaKnown
namespace Go.Proofs.Ytapojpjmeadabaa
open Go.RowKit
set_option linter.unusedVariables false
set_option linter.unusedSimpArgs false
attribute [local go_sem] lt_ext cell?_ext frozen?_ext shape?_ext

theorem take_join (l : List UInt8) (j q : Nat) (h : j ≤ q) : l.take j ++ (l.take q).drop j = l.take q := by
  have e := List.take_append_drop j (l.take q)
  rw [List.take_take, Nat.min_eq_left h] at e
  exact e
set_option maxRecDepth 100000 in
set_option maxHeartbeats 1000000 in
theorem pieces_any (v c : Value) (l k : List UInt8) (w : World) (hB : Bs w v l) (hC : Bs w c k) :
    Calls Try.prog 6 #[v, c] w fun e w' => e = .returned (.bool true) ∧ Ext w w' := by
  obtain ⟨A, cap, rfl, hcap, hcm, _, _⟩ := hB.is
  obtain ⟨A', cap', rfl, hcap', hcm', _, _⟩ := hC.is
  have hlm : l.length ≤ maxLen := Nat.le_trans hcap hcm
  have hkm : k.length ≤ maxLen := Nat.le_trans hcap' hcm'
  unfold maxLen at hlm hkm
  have HB := Lib.hid hB
  have HC := Lib.hid hC
  clear hB hC
  by_cases h1 : 1000 < l.length
  · go_enter Try.func6, Try.ntmps6
    go_wp2_with (go_at_call 29; go_must (refine (known_any _).mono ?_; rintro e w1 ⟨rfl, hx1⟩))
    go_ret
    exact ⟨rfl, hx1⟩
  by_cases h2 : 60 < k.length
  · go_enter Try.func6, Try.ntmps6
    go_wp2_with (go_at_call 29; go_must (refine (known_any _).mono ?_; rintro e w1 ⟨rfl, hx1⟩))
    go_ret
    exact ⟨rfl, hx1⟩
  go_enter Try.func6, Try.ntmps6
  go_wp2_with (go_at_call 32; go_must (refine (new_any _).mono ?_; rintro e w1 ⟨hb, kb, rfl, hH1, hx1, hg1, hk1⟩; have HO1 := Lib.hid (⟨hH1, hx1, hg1, fun g hg => nomatch hg⟩ : OurH w hb kb (.slice none 0 0) [] w1); clear hH1 hx1 hg1))
  go_loopw [6, 7] (fun p i wr => ∃ (n j : Nat) (rv : Value), j ≤ l.length ∧ n ≤ k.length ∧ i = .int .i64 n ∧ p = .int .i64 j ∧ OurH w hb kb rv (l.take j) wr) (fun _ i _ => k.length - (intOf i).toNat)
  case atStart => exact ⟨0, 0, _, by omega, by omega, rfl, rfl, HO1.out⟩
  case round =>
    obtain ⟨n, j, rv, hj, hn, rfl, rfl, hour⟩ := hrel
    have HO := Lib.hid hour
    clear hour HO1
    by_cases hlt : n < k.length ∧ j < l.length
    · obtain ⟨hlt1, hlt2⟩ := hlt
      have hCr : Bs wr (.slice A' k.length cap') k := Rd.ext HC.out HO.out.ext
      obtain ⟨b1, o1, cap1, hA, _, _, hbl1, hcell1⟩ := hCr.pos (by omega)
      injection hA with hA1 hA2 hA3
      subst hA1; subst hA3
      have c1 := hcell1 n hlt1
      obtain ⟨x, hx, c1'⟩ : ∃ x : Nat, x < 256 ∧ wr.cell? ⟨b1, o1 + n, none⟩ = some (.int .u8 (x : Int)) := ⟨(k.getD n 0).toNat, (k.getD n 0).toNat_lt, c1⟩
      clear hCr hcell1 c1
      by_cases h3 : j + x ≤ l.length
      · go_wp2_with (first | (refine wpList_slice_bs rfl (.tmp 42) (some (.tmp 43)) (some (.tmp 44)) rfl _ rfl (Rd.ext HB.out HO.out.ext) j (j + x) (.inr rfl) (by exact .inr (congrArg (fun z => some (Value.int .i64 z)) (Int.natCast_add j x).symm)) (by omega) (by omega) ?_; intro v2 hv2; have HV2 := Lib.hid hv2; clear hv2) | (go_at_call 33; go_must (refine (write_any hb kb rv v2 _ ((l.take (j + x)).drop j) _ HO.out.at_ HV2.out (by simp; omega)).mono ?_; rintro e w3 ⟨rfl, rv3, hH3, hc3, hf3⟩; have HO3 := Lib.hid (HO.out.wrote hH3 hc3 hf3); rw [take_join l j (j + x) (by omega)] at HO3; clear hH3 hc3 hf3)))
        go_roundw
        case rel => exact ⟨n + 1, j + x, rv3, by omega, by omega, by go_num, by first | (rw [if_pos (by omega)]; done) | go_num, HO3.out⟩
        case measure => simp [intOf]; omega
      · go_wp2_with (first | (refine wpList_slice_bs rfl (.tmp 42) (some (.tmp 43)) (some (.tmp 44)) rfl _ rfl (Rd.ext HB.out HO.out.ext) j (l.length) (.inr rfl) (by exact .inr (congrArg (fun z => some (Value.int .i64 z)) (show (if (l.length : Int) < (j : Int) + (x : Int) then (l.length : Int) else (j : Int) + (x : Int)) = (l.length : Int) from if_pos (by omega)))) (by omega) (by omega) ?_; intro v2 hv2; have HV2 := Lib.hid hv2; clear hv2) | (go_at_call 33; go_must (refine (write_any hb kb rv v2 _ ((l.take (l.length)).drop j) _ HO.out.at_ HV2.out (by simp; omega)).mono ?_; rintro e w3 ⟨rfl, rv3, hH3, hc3, hf3⟩; have HO3 := Lib.hid (HO.out.wrote hH3 hc3 hf3); rw [take_join l j (l.length) (by omega)] at HO3; clear hH3 hc3 hf3)))
        go_roundw
        case rel => exact ⟨n + 1, l.length, rv3, by omega, by omega, by go_num, by first | (rw [if_pos (by omega)]; done) | go_num, HO3.out⟩
        case measure => simp [intOf]; omega
    · have HKN := Lib.hid hlt
      clear hlt
      have hj' := hj
      by_cases hn1 : n < k.length
      · obtain rfl : j = l.length := by have := HKN.out; omega
        go_wp2_with (first | (refine wpList_slice_bs rfl (.tmp 49) (some (.tmp 50)) none rfl _ rfl (Rd.ext HB.out HO.out.ext) l.length l.length (.inr rfl) (.inl ⟨rfl, rfl⟩) (by omega) (by omega) ?_; intro v2 hv2; have HV2 := Lib.hid hv2; clear hv2) | (go_at_call 33; go_must (refine (write_any hb kb rv v2 _ ((l.take l.length).drop l.length) _ HO.out.at_ HV2.out (by simp; omega)).mono ?_; rintro e w3 ⟨rfl, rv3, hH3, hc3, hf3⟩; have HO3 := Lib.hid (HO.out.wrote hH3 hc3 hf3); rw [take_join l l.length l.length (by omega), List.take_length] at HO3; clear hH3 hc3 hf3)) | (go_at_call 34; go_must (refine (hsum_any hb kb rv3 l _ HO3.out.at_ (by omega)).mono ?_; rintro e w4 ⟨rfl, hx4⟩; have HX4 := Lib.hid (HO3.out.ext.trans hx4); clear hx4)) | (go_at_call 30; go_must (refine (sum_any _ _ [l] _ (Rss.one w4 _ l (Rd.ext HB.out HX4.out)) (by simp; omega)).mono ?_; rintro e w5 ⟨rfl, hx5⟩; rw [show [l].flatten = l by simp]; have HX5 := Lib.hid ((HX4.out.alloc _).trans hx5); clear hx5)) | (refine wpl_v (by rfl) _ (exec_eq27 _ _ _ rfl (Sha.sum l) (Sha.sum l) rfl rfl (Sha.sum_length _) (Sha.sum_length _) _) ?_) | (go_at_call 29; go_must (refine (known_any _).mono ?_; rintro e w6 ⟨rfl, hx6⟩; have HX6 := Lib.hid (HX5.out.trans hx6); clear hx6)))
        go_ret
        exact ⟨rfl, HX6.out⟩
      · go_wp2_with (first | (refine wpList_slice_bs rfl (.tmp 49) (some (.tmp 50)) none rfl _ rfl (Rd.ext HB.out HO.out.ext) j l.length (.inr rfl) (.inl ⟨rfl, rfl⟩) (by omega) (by omega) ?_; intro v2 hv2; have HV2 := Lib.hid hv2; clear hv2) | (go_at_call 33; go_must (refine (write_any hb kb rv v2 _ ((l.take l.length).drop j) _ HO.out.at_ HV2.out (by simp; omega)).mono ?_; rintro e w3 ⟨rfl, rv3, hH3, hc3, hf3⟩; have HO3 := Lib.hid (HO.out.wrote hH3 hc3 hf3); rw [take_join l j l.length (by omega), List.take_length] at HO3; clear hH3 hc3 hf3)) | (go_at_call 34; go_must (refine (hsum_any hb kb rv3 l _ HO3.out.at_ (by omega)).mono ?_; rintro e w4 ⟨rfl, hx4⟩; have HX4 := Lib.hid (HO3.out.ext.trans hx4); clear hx4)) | (go_at_call 30; go_must (refine (sum_any _ _ [l] _ (Rss.one w4 _ l (Rd.ext HB.out HX4.out)) (by simp; omega)).mono ?_; rintro e w5 ⟨rfl, hx5⟩; rw [show [l].flatten = l by simp]; have HX5 := Lib.hid ((HX4.out.alloc _).trans hx5); clear hx5)) | (refine wpl_v (by rfl) _ (exec_eq27 _ _ _ rfl (Sha.sum l) (Sha.sum l) rfl rfl (Sha.sum_length _) (Sha.sum_length _) _) ?_) | (go_at_call 29; go_must (refine (known_any _).mono ?_; rintro e w6 ⟨rfl, hx6⟩; have HX6 := Lib.hid (HX5.out.trans hx6); clear hx6)))
        go_ret
        exact ⟨rfl, HX6.out⟩
end Go.Proofs.Ytapojpjmeadabaa

/- codec.Put, codec.Get. -/
import Derived.Test.YtapojpjmeadabaaMac2
namespace Go.Proofs.Ytapojpjmeadabaa
open Go.RowKit
set_option linter.unusedVariables false
set_option linter.unusedSimpArgs false
attribute [local go_sem] lt_ext cell?_ext frozen?_ext shape?_ext
attribute [local go_sem] u8_xor u8_or i8_mod u8_wrap

theorem shr_byte (n j : Nat) : (n : Int) / 2 ^ (8 * j) % 256 = i8 (UInt8.ofNat (n / 256 ^ j)) := by
  have e : (n : Int) / 2 ^ (8 * j) = ((n / 256 ^ j : Nat) : Int) := by
    rw [Int.natCast_ediv, Int.natCast_pow, Nat.mul_comm 8 j, Nat.mul_comm j 8, Int.pow_mul]
    rfl
  rw [e, m8_of_nat]
theorem be_set (n k j m : Nat) (hm : m + j + 1 = k) : (Sha.zeros (k - j) ++ be n j).set m (UInt8.ofNat (n / 256 ^ j)) = Sha.zeros (k - (j + 1)) ++ be n (j + 1) := by
  subst hm
  have e1 : m + j + 1 - j = m + 1 := by omega
  have e2 : m + j + 1 - (j + 1) = m := by omega
  rw [e1, e2, Sha.zeros, List.replicate_succ', List.append_assoc, List.set_append_right _ _ (by simp)]
  simp [Sha.zeros, be]
set_option maxRecDepth 100000 in
set_option maxHeartbeats 1000000 in
theorem cput_any (n : Nat) (hn : n ≤ 18446744073709551615) (k : Nat) (hk0 : 0 < k) (hk8 : k ≤ 8) (w : World) :
    Calls Try.prog 95 #[.int .u64 (n : Int), .int .i64 (k : Int)] w fun e w' => ∃ v, e = .returned v ∧ NewB w v (be n k) w' := by
  have hk1 : ¬ (8 : Int) < (k : Int) := by omega
  go_enter Try.func95, Try.ntmps95
  go_wp2_with (refine wpl_make23 rfl _ _ rfl k rfl rfl (by omega) ?_; intro w1 h1 hx1 hs1; have H1 := Lib.hid h1; have HX1 := Lib.hid hx1; clear h1 hx1 hs1)
  go_loopw [13, 6] (fun r i wr => ∃ (j : Nat), j ≤ k ∧ r = .int .i64 j ∧ Blk wr w.heap.size 5 (Sha.zeros (k - j) ++ be n j) ∧ Ext w wr) (fun r _ _ => k - (intOf r).toNat)
  case atStart => exact ⟨0, by omega, rfl, by simpa [be] using H1.out, HX1.out⟩
  case round =>
    obtain ⟨j, hj, rfl, hB, hx⟩ := hrel
    by_cases hlt : j < k
    · obtain ⟨m, hm, hmk⟩ : ∃ m : Nat, (k : Int) - 1 - (j : Int) = (m : Int) ∧ m < k := ⟨k - 1 - j, by omega, by omega⟩
      have hcell := hB.cell m (by simp [Sha.zeros, be_length]; omega)
      generalize (Sha.zeros (k - j) ++ be n j).getD m 0 = old at hcell
      have hf := hB.frozen m
      have hbl := hB.lt
      have HB := Lib.hid hB
      have HX := Lib.hid hx
      clear hB hx
      go_wp2
      go_roundw
      case rel =>
        refine ⟨j + 1, by omega, by go_num, ?_, Ext.setCell_new HX.out trivial (Nat.le_refl _)⟩
        rw [shr_byte, ← be_set n k j m (by omega)]
        exact HB.out.set m _
      case measure => simp [intOf]; omega
    · obtain rfl : j = k := by omega
      have e : Sha.zeros (j - j) ++ be n j = be n j := by rw [Nat.sub_self]; rfl
      rw [e] at hB
      have HB := Lib.hid hB
      have HX := Lib.hid hx
      clear hB hx e
      go_wp2
      go_ret
      exact ⟨_, rfl, HB.out.own j (by rw [be_length]) (by omega), HX.out, fun g hg => by injection hg with e; subst e; exact Nat.le_refl _⟩
theorem or64_byte (p : Nat) (x : UInt8) (hp : p < 256 ^ 7) : bits .or .u64 (IntKind.u64.wrap ((p : Int) * 256)) (IntKind.u64.wrap (i8 x)) = ((p * 256 + x.toNat : Nat) : Int) := by
  have hx := x.toNat_lt
  have hp' : p < 72057594037927936 := hp
  have e1 : IntKind.u64.wrap ((p : Int) * 256) = ((p * 256 : Nat) : Int) := by rw [IntKind.wrap_u64]; omega
  have e2 : IntKind.u64.wrap (i8 x) = (x.toNat : Int) := by rw [IntKind.wrap_u64]; unfold i8; omega
  rw [e1, e2]
  unfold bits
  simp only [IntKind.bits, BitVec.ofInt_natCast]
  have e3 : (BitVec.ofNat 64 (p * 256) ||| BitVec.ofNat 64 x.toNat).toNat = p * 256 + x.toNat := by
    rw [BitVec.toNat_or, BitVec.toNat_ofNat, BitVec.toNat_ofNat, Nat.mod_eq_of_lt (by omega), Nat.mod_eq_of_lt (by omega), or_add p x.toNat 8 (by omega)]
  show IntKind.u64.wrap ((BitVec.ofNat 64 (p * 256) ||| BitVec.ofNat 64 x.toNat).toNat : Int) = _
  rw [e3, IntKind.wrap_u64]
  omega
set_option maxRecDepth 100000 in
set_option maxHeartbeats 1000000 in
theorem cget_any (v : Value) (l : List UInt8) (hl : l.length ≤ 8) (w : World) (hB : Bs w v l) :
    Calls Try.prog 105 #[v] w fun e w' => e = .returned (.int .u64 (spell l : Nat)) ∧ w = w' := by
  obtain ⟨A, cap, rfl, hcap, hcm, _, _⟩ := hB.is
  have HB := Lib.hid hB
  clear hB
  have h8 : ¬ (0 : Int) < (l.length : Int) - 8 := by omega
  go_enter Try.func105, Try.ntmps105
  go_wp2
  go_loop [13, 3, 5] (fun r x c => ∃ k : Nat, k ≤ l.length ∧ r = .int .i64 k ∧ x = .int .u64 (spell (l.take k) : Nat)) (fun r _ _ => l.length - (intOf r).toNat)
  case atStart => exact ⟨0, by omega, rfl, rfl⟩
  case round =>
    obtain ⟨k, hk, rfl, rfl⟩ := hrel
    clear h8
    by_cases hlt : k < l.length
    · obtain ⟨b, o, cap', hA, _, _, hbl, hcell⟩ := HB.out.pos (by omega)
      injection hA with hA1 hA2 hA3
      subst hA1
      subst hA3
      have hc := hcell k hlt
      clear hcell
      have hs := spell_lt (l.take k)
      rw [List.length_take, Nat.min_eq_left hk] at hs
      have hs : spell (l.take k) < 256 ^ 7 := Nat.lt_of_lt_of_le hs (Nat.pow_le_pow_right (by omega) (by omega))
      have HS := Lib.hid hs
      have HT := Lib.hid (spell_take l k hlt)
      obtain ⟨p, hp⟩ : ∃ p, spell (l.take k) = p := ⟨_, rfl⟩
      rw [hp] at HS HT
      rw [hp]
      clear hs hp
      generalize l.getD k 0 = x at *
      go_wp2
      go_round
      case rel => exact ⟨k + 1, by omega, by go_num, by rw [HT.out, or64_byte _ _ HS.out]⟩
      case measure => simp [intOf]; omega
    · obtain rfl : k = l.length := by omega
      go_wp2
      go_ret
      exact ⟨rfl, rfl⟩
end Go.Proofs.Ytapojpjmeadabaa

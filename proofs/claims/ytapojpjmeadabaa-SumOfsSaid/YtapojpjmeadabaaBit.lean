/- Words turned to the right or left: math/bits.RotateLeft32, sha.right, sacristanref02.turn. For every word, by 1 to 31. -/
import Derived.Test.YtapojpjmeadabaaMem
namespace Go.Proofs.Ytapojpjmeadabaa
open Go.RowKit
attribute [local go_sem] cell?_ext frozen?_ext shape?_ext u32_xor u32_or u32_and u32_not u32_add u32_wrap u8_wrap u32_shl24 u32_shl16 u32_shl8 u32_shr3 u32_shr10 u8_xor u8_or u32_of_u8 i32_mod i8_mod m32_add m32_shl24 m32_shl16 m32_shl8 m32_of_u8
theorem rl_shift (n : Nat) (hn : 0 < n) (hn' : n < 32) : bits .and .u64 (IntKind.u64.wrap (-(n:Int))) 31 = ((32 - n : Nat) : Int) := by
  have : n = 1 ∨ n = 2 ∨ n = 3 ∨ n = 4 ∨ n = 5 ∨ n = 6 ∨ n = 7 ∨ n = 8 ∨ n = 9 ∨ n = 10 ∨ n = 11 ∨ n = 12 ∨ n = 13 ∨ n = 14 ∨ n = 15 ∨ n = 16 ∨ n = 17 ∨ n = 18 ∨ n = 19 ∨ n = 20 ∨ n = 21 ∨ n = 22 ∨ n = 23 ∨ n = 24 ∨ n = 25 ∨ n = 26 ∨ n = 27 ∨ n = 28 ∨ n = 29 ∨ n = 30 ∨ n = 31 := by omega
  rcases this with h|h|h|h|h|h|h|h|h|h|h|h|h|h|h|h|h|h|h|h|h|h|h|h|h|h|h|h|h|h|h <;> subst h <;> decide
section
attribute [local go_sem] u32_shl u32_shr
set_option maxHeartbeats 400000 in
theorem turn_any (x : BitVec 32) (c : Int) (n : Nat) (hc : c = n) (hn : 0 < n) (hn' : n < 32) (w : World) :
    Calls Try.prog 114 #[W32 x, .int .i64 c] w fun e w' => e = .returned (W32 (Sha.rot x n)) ∧ w = w' := by
  subst hc
  go_enter Try.func114, Try.ntmps114
  go_wp2
  go_ret
  exact ⟨rfl, rfl⟩
set_option maxHeartbeats 400000 in
theorem rl_any (x : BitVec 32) (n : Nat) (hn : 0 < n) (hn' : n < 32) (w : World) :
    Calls Try.prog 121 #[W32 x, .int .i64 (-(n:Int))] w fun e w' => e = .returned (W32 (Sha.rot x n)) ∧ w = w' := by
  have h1 := rl_shift n hn hn'
  have h2 : 32 - (32 - n) = n := by omega
  have h3 := BitVec.or_comm (x <<< (32 - n)) (x >>> n)
  go_enter Try.func121, Try.ntmps121
  go_wp2
  go_ret
  exact ⟨by rw [Sha.rot, ← h3]; rfl, rfl⟩
set_option maxHeartbeats 400000 in
theorem right_any (x : BitVec 32) (c : Int) (n : Nat) (hc : c = n) (hn : 0 < n) (hn' : n < 32) (w : World) :
    Calls Try.prog 116 #[W32 x, .int .i64 c] w fun e w' => e = .returned (W32 (Sha.rot x n)) ∧ w = w' := by
  subst hc
  go_enter Try.func116, Try.ntmps116
  go_wp2_with (go_at_call 121; refine (rl_any x n hn hn' _).mono ?_; rintro e w' ⟨rfl, rfl⟩)
  go_ret
  exact ⟨rfl, rfl⟩
end
theorem right_c (x : BitVec 32) (c : Int) (h0 : 0 < c) (h1 : c < 32) (w : World) :
    Calls Try.prog 116 #[W32 x, .int .i64 c] w fun e w' => e = .returned (W32 (Sha.rot x c.toNat)) ∧ w = w' := right_any x c c.toNat (by omega) (by omega) (by omega) w
theorem turn_c (x : BitVec 32) (c : Int) (h0 : 0 < c) (h1 : c < 32) (w : World) :
    Calls Try.prog 114 #[W32 x, .int .i64 c] w fun e w' => e = .returned (W32 (Sha.rot x c.toNat)) ∧ w = w' := turn_any x c c.toNat (by omega) (by omega) (by omega) w
end Go.Proofs.Ytapojpjmeadabaa

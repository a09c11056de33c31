/- What Go's operators on uint32, uint8 and uint64 come to, said of words of 32 bits, of bytes, of numbers below 2^64. -/
import Derived.WalkKit
import Derived.Test.YtapojpjmeadabaaPure
namespace Go.Proofs.Ytapojpjmeadabaa
open Go.RowKit
def i32 (x : BitVec 32) : Int := (x.toNat : Int)
def i8 (x : UInt8) : Int := (x.toNat : Int)
abbrev W32 (x : BitVec 32) : Value := .int .u32 (i32 x)
abbrev B8 (x : UInt8) : Value := .int .u8 (i8 x)
theorem i8_nonneg (x : UInt8) : 0 ≤ i8 x := by unfold i8; omega
theorem i8_lt (x : UInt8) : i8 x < 256 := by have := x.toNat_lt; unfold i8; omega
theorem i32_nonneg (x : BitVec 32) : 0 ≤ i32 x := by unfold i32; omega
theorem i32_lt (x : BitVec 32) : i32 x < 4294967296 := by have := x.isLt; unfold i32; omega
theorem i8_inj {x y : UInt8} (h : i8 x = i8 y) : x = y := by
  unfold i8 at h; exact UInt8.toNat_inj.1 (by omega)
theorem i32_inj {x y : BitVec 32} (h : i32 x = i32 y) : x = y := by
  unfold i32 at h; exact BitVec.eq_of_toNat_eq (by omega)

theorem ofInt_i32 (x : BitVec 32) : BitVec.ofInt 32 (i32 x) = x := by simp [i32]
theorem ofInt_i8 (x : UInt8) : BitVec.ofInt 8 (i8 x) = x.toBitVec := by
  apply BitVec.eq_of_toNat_eq; simp [i8]
theorem wrap_i32' (x : BitVec 32) : IntKind.u32.wrap (x.toNat : Int) = x.toNat := by
  have := x.isLt
  simp [IntKind.wrap, IntKind.bits, IntKind.signed]; omega
theorem wrap_i8' (x : BitVec 8) : IntKind.u8.wrap (x.toNat : Int) = x.toNat := by
  have := x.isLt
  simp [IntKind.wrap, IntKind.bits, IntKind.signed]; omega
theorem u32_xor (x y : BitVec 32) : bits .xor .u32 (i32 x) (i32 y) = i32 (x ^^^ y) := by
  unfold bits; simp only [IntKind.bits]; rw [ofInt_i32, ofInt_i32]; exact wrap_i32' _
theorem u32_or (x y : BitVec 32) : bits .or .u32 (i32 x) (i32 y) = i32 (x ||| y) := by
  unfold bits; simp only [IntKind.bits]; rw [ofInt_i32, ofInt_i32]; exact wrap_i32' _
theorem u32_and (x y : BitVec 32) : bits .and .u32 (i32 x) (i32 y) = i32 (x &&& y) := by
  unfold bits; simp only [IntKind.bits]; rw [ofInt_i32, ofInt_i32]; exact wrap_i32' _
theorem u8_xor (x y : UInt8) : bits .xor .u8 (i8 x) (i8 y) = i8 (x ^^^ y) := by
  unfold bits; simp only [IntKind.bits]; rw [ofInt_i8, ofInt_i8]; exact wrap_i8' _
theorem u8_or (x y : UInt8) : bits .or .u8 (i8 x) (i8 y) = i8 (x ||| y) := by
  unfold bits; simp only [IntKind.bits]; rw [ofInt_i8, ofInt_i8]; exact wrap_i8' _
theorem u8_and (x y : UInt8) : bits .and .u8 (i8 x) (i8 y) = i8 (x &&& y) := by
  unfold bits; simp only [IntKind.bits]; rw [ofInt_i8, ofInt_i8]; exact wrap_i8' _
theorem u32_add (x y : BitVec 32) : IntKind.u32.wrap (i32 x + i32 y) = i32 (x + y) := by
  simp only [i32, BitVec.toNat_add, IntKind.wrap, IntKind.bits, IntKind.signed]; simp
theorem u32_shl (x : BitVec 32) (n : Nat) : IntKind.u32.wrap (i32 x * 2 ^ n) = i32 (x <<< n) := by
  simp only [i32, BitVec.toNat_shiftLeft, Nat.shiftLeft_eq, IntKind.wrap, IntKind.bits, IntKind.signed]; simp
theorem u32_shr (x : BitVec 32) (n : Nat) : i32 x / 2 ^ n = i32 (x >>> n) := by
  simp only [i32, BitVec.toNat_ushiftRight, Nat.shiftRight_eq_div_pow]; simp
theorem u32_shl24 (x : BitVec 32) : IntKind.u32.wrap (i32 x * (16777216 : Int)) = i32 (x <<< 24) := u32_shl x 24
theorem u32_shl16 (x : BitVec 32) : IntKind.u32.wrap (i32 x * (65536 : Int)) = i32 (x <<< 16) := u32_shl x 16
theorem u32_shl8 (x : BitVec 32) : IntKind.u32.wrap (i32 x * (256 : Int)) = i32 (x <<< 8) := u32_shl x 8
theorem u32_shr3 (x : BitVec 32) : i32 x / (8 : Int) = i32 (x >>> 3) := u32_shr x 3
theorem u32_shr10 (x : BitVec 32) : i32 x / (1024 : Int) = i32 (x >>> 10) := u32_shr x 10
theorem u32_wrap (x : BitVec 32) : IntKind.u32.wrap (i32 x) = i32 x := wrap_i32' x
theorem u8_wrap (x : UInt8) : IntKind.u8.wrap (i8 x) = i8 x := wrap_i8' x.toBitVec
theorem u32_of_u8 (b : UInt8) : IntKind.u32.wrap (i8 b) = i32 (Sha.b32 b) := by
  have := b.toNat_lt
  simp [i8, i32, Sha.b32, IntKind.wrap, IntKind.bits, IntKind.signed]; omega
theorem u32_u8 (b : UInt8) : i8 b = i32 (Sha.b32 b) := by
  have := b.toNat_lt
  simp [i8, i32, Sha.b32]
theorem u8_of_nat (n : Nat) : IntKind.u8.wrap (n : Int) = i8 (UInt8.ofNat n) := by
  simp [i8, IntKind.wrap, IntKind.bits, IntKind.signed]
theorem u8_of_i32 (x : BitVec 32) : IntKind.u8.wrap (i32 x) = i8 (UInt8.ofNat x.toNat) := u8_of_nat _
theorem u8_of_i32_24 (x : BitVec 32) : IntKind.u8.wrap (i32 x / (16777216 : Int)) = i8 (UInt8.ofNat (x.toNat / 16777216)) := u8_of_nat _
theorem u8_of_i32_16 (x : BitVec 32) : IntKind.u8.wrap (i32 x / (65536 : Int)) = i8 (UInt8.ofNat (x.toNat / 65536)) := u8_of_nat _
theorem u8_of_i32_8 (x : BitVec 32) : IntKind.u8.wrap (i32 x / (256 : Int)) = i8 (UInt8.ofNat (x.toNat / 256)) := u8_of_nat _
theorem u32_not (x : BitVec 32) : bits .xor .u32 (i32 x) 4294967295 = i32 (~~~ x) := by
  have h := u32_xor x 4294967295#32
  rw [show i32 4294967295#32 = 4294967295 from rfl] at h
  rw [h]
  congr 1
  apply BitVec.eq_of_getLsbD_eq
  intro i hi
  have e : (4294967295#32 : BitVec 32) = BitVec.allOnes 32 := rfl
  rw [e, BitVec.getLsbD_xor, BitVec.getLsbD_allOnes, BitVec.getLsbD_not]
  simp [hi]
theorem i32_mod (x : BitVec 32) : i32 x % (4294967296 : Int) = i32 x := Int.emod_eq_of_lt (i32_nonneg x) (i32_lt x)
theorem i8_mod (x : UInt8) : i8 x % (256 : Int) = i8 x := Int.emod_eq_of_lt (i8_nonneg x) (i8_lt x)
theorem m32_add (x y : BitVec 32) : (i32 x + i32 y) % (4294967296 : Int) = i32 (x + y) := by rw [← u32_add, IntKind.wrap_u32]
theorem m32_shl24 (x : BitVec 32) : i32 x * (16777216 : Int) % (4294967296 : Int) = i32 (x <<< 24) := by have h := u32_shl24 x; rw [IntKind.wrap_u32] at h; exact h
theorem m32_shl16 (x : BitVec 32) : i32 x * (65536 : Int) % (4294967296 : Int) = i32 (x <<< 16) := by have h := u32_shl16 x; rw [IntKind.wrap_u32] at h; exact h
theorem m32_shl8 (x : BitVec 32) : i32 x * (256 : Int) % (4294967296 : Int) = i32 (x <<< 8) := by have h := u32_shl8 x; rw [IntKind.wrap_u32] at h; exact h
theorem m8_of_nat (n : Nat) : (n : Int) % (256 : Int) = i8 (UInt8.ofNat n) := by rw [← u8_of_nat, IntKind.wrap_u8]
theorem m8_of_i32 (x : BitVec 32) : i32 x % (256 : Int) = i8 (UInt8.ofNat x.toNat) := m8_of_nat _
theorem m8_of_i32_24 (x : BitVec 32) : i32 x / (16777216 : Int) % (256 : Int) = i8 (UInt8.ofNat (x.toNat / 16777216)) := m8_of_nat _
theorem m8_of_i32_16 (x : BitVec 32) : i32 x / (65536 : Int) % (256 : Int) = i8 (UInt8.ofNat (x.toNat / 65536)) := m8_of_nat _
theorem m8_of_i32_8 (x : BitVec 32) : i32 x / (256 : Int) % (256 : Int) = i8 (UInt8.ofNat (x.toNat / 256)) := m8_of_nat _
/-- all that a walk over words wants -/
theorem m32_of_u8 (b : UInt8) : i8 b % (4294967296 : Int) = i32 (Sha.b32 b) := by rw [← IntKind.wrap_u32, u32_of_u8]
theorem u32_not_max (x : BitVec 32) : bits .xor .u32 IntKind.u32.max (i32 x) = i32 (~~~ x) := by
  have h := u32_xor 4294967295#32 x
  rw [show i32 4294967295#32 = IntKind.u32.max from rfl] at h
  rw [h]
  congr 1
end Go.Proofs.Ytapojpjmeadabaa

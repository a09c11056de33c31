/- Sums and differences word by word, in plain Lean; bits.Add64, bits.Sub64 of this program. -/
import Derived.Test.YtapojpjmeadabaaDigt
import Derived.Test.YtapojpjmeadabaaRegn
import Derived.Laws.Externs
namespace Go.Proofs.Ytapojpjmeadabaa
open Go.RowKit
set_option linter.unusedVariables false
set_option linter.unusedSimpArgs false

theorem val_setW (f : Nat → Nat) (k s : Nat) : val (setW f k s) (k + 1) = val f k + s * 2 ^ (64 * k) := by
  simp only [val]
  rw [val_congr (f := setW f k s) (g := f) k (fun i hi => by unfold setW; rw [if_neg (by omega)])]
  simp [setW]
/-- What holds after k rounds of a sum. -/
structure AddI (a b k : Nat) (f : Nat → Nat) (c : Nat) : Prop where
  lt : ∀ i, i < 4 → f i < 18446744073709551616
  rest : ∀ i, k ≤ i → f i = wd a i
  sum : val f k + c * 2 ^ (64 * k) = val (wd a) k + val (wd b) k
  le : c ≤ 1
theorem AddI.zero (a b : Nat) : AddI a b 0 (wd a) 0 := ⟨fun i _ => wd_lt a i, fun _ _ => rfl, rfl, by omega⟩
theorem AddI.next {a b k c : Nat} {f : Nat → Nat} (h : AddI a b k f c) (hk : k < 4) :
    AddI a b (k + 1) (setW f k ((f k + wd b k + c) % 18446744073709551616)) ((f k + wd b k + c) / 18446744073709551616) := by
  have h1 := h.lt k hk
  have h2 := wd_lt b k
  have h3 := h.le
  refine ⟨fun i hi => ?_, fun i hi => ?_, ?_, by omega⟩
  · unfold setW
    split
    · omega
    · exact h.lt i hi
  · unfold setW
    rw [if_neg (by omega)]
    exact h.rest i (by omega)
  · rw [val_setW]
    have e := h.sum
    have er := h.rest k (Nat.le_refl _)
    simp only [val]
    rw [← er, show 2 ^ (64 * (k + 1)) = 18446744073709551616 * 2 ^ (64 * k) by rw [Nat.mul_add, Nat.pow_add, Nat.mul_comm]]
    generalize 2 ^ (64 * k) = p at *
    generalize wd b k = y at *
    generalize f k = x at *
    have e3 : (x + y + c) % 18446744073709551616 * p + (x + y + c) / 18446744073709551616 * (18446744073709551616 * p) = (x + y + c) * p := by
      rw [← Nat.mul_assoc, ← Nat.add_mul]
      congr 1
      omega
    have e4 : (x + y + c) * p = x * p + y * p + c * p := by rw [Nat.add_mul, Nat.add_mul]
    omega
theorem be_of (n m q : Nat) (h : n + q * 256 ^ 32 = m) : be n 32 = be m 32 := be_congr _ _ _ (by rw [← h, Nat.add_mul_mod_self_right])
theorem AddI.done {A B : List UInt8} (hA : A.length = 32) (hB : B.length = 32) {f : Nat → Nat} {c : Nat} (h : AddI (spell A) (spell B) 4 f c) : be (val f 4) 32 = addD A B := by
  have e := h.sum
  have h1 := spell_lt A
  have h2 := spell_lt B
  rw [hA] at h1
  rw [hB] at h2
  have hp : (256 : Nat) ^ 32 = 2 ^ (64 * 4) := by decide
  rw [val_wd, val_wd, ← hp, Nat.mod_eq_of_lt h1, Nat.mod_eq_of_lt h2] at e
  exact be_of _ _ c e
/-- .. of a difference. -/
structure SubI (a b k : Nat) (f : Nat → Nat) (c : Nat) : Prop where
  lt : ∀ i, i < 4 → f i < 18446744073709551616
  rest : ∀ i, k ≤ i → f i = wd a i
  sum : val f k + val (wd b) k = val (wd a) k + c * 2 ^ (64 * k)
  le : c ≤ 1
theorem SubI.zero (a b : Nat) : SubI a b 0 (wd a) 0 := ⟨fun i _ => wd_lt a i, fun _ _ => rfl, rfl, by omega⟩
theorem SubI.next {a b k c : Nat} {f : Nat → Nat} (h : SubI a b k f c) (hk : k < 4) :
    SubI a b (k + 1) (setW f k ((f k + 18446744073709551616 - wd b k - c) % 18446744073709551616)) (if f k < wd b k + c then 1 else 0) := by
  have h1 := h.lt k hk
  have h2 := wd_lt b k
  have h3 := h.le
  refine ⟨fun i hi => ?_, fun i hi => ?_, ?_, by split <;> omega⟩
  · unfold setW
    split
    · omega
    · exact h.lt i hi
  · unfold setW
    rw [if_neg (by omega)]
    exact h.rest i (by omega)
  · rw [val_setW]
    have e := h.sum
    have er := h.rest k (Nat.le_refl _)
    simp only [val]
    rw [← er, show 2 ^ (64 * (k + 1)) = 18446744073709551616 * 2 ^ (64 * k) by rw [Nat.mul_add, Nat.pow_add, Nat.mul_comm]]
    generalize 2 ^ (64 * k) = p at *
    generalize wd b k = y at *
    generalize f k = x at *
    have key : (x + 18446744073709551616 - y - c) % 18446744073709551616 + y + c = x + (if x < y + c then 1 else 0) * 18446744073709551616 := by split <;> omega
    have e3 := congrArg (· * p) key
    simp only [Nat.add_mul, Nat.mul_assoc] at e3
    omega
theorem SubI.done {A B : List UInt8} (hA : A.length = 32) (hB : B.length = 32) {f : Nat → Nat} {c : Nat} (h : SubI (spell A) (spell B) 4 f c) : be (val f 4) 32 = subD A B := by
  have e := h.sum
  have hc := h.le
  have h1 := spell_lt A
  have h2 := spell_lt B
  rw [hA] at h1
  rw [hB] at h2
  have hp : (256 : Nat) ^ 32 = 2 ^ (64 * 4) := by decide
  rw [val_wd, val_wd, ← hp, Nat.mod_eq_of_lt h1, Nat.mod_eq_of_lt h2] at e
  unfold subD
  refine be_of _ _ (1 - c) ?_
  generalize (256 : Nat) ^ 32 = p at *
  have : c = 0 ∨ c = 1 := by omega
  rcases this with rfl | rfl <;> omega

def sub64Entry : Array Value → Sem Value := fun args => do
  let (x, y, b) ← Extern.MathBitsCarry.three "Sub64" args
  pure (Extern.MathBitsCarry.pair ((x + Extern.MathBitsCarry.m64 - y - b) % Extern.MathBitsCarry.m64) (if x < y + b then 1 else 0))
theorem run_sub64 {P : Program} (x y b : Nat) (hb : b ≤ 1) (w : World) :
    (sub64Entry #[.int .u64 x, .int .u64 y, .int .u64 b]).run P w =
      .ok (.tuple #[.int .u64 (((x + 18446744073709551616 - y - b) % 18446744073709551616 : Nat) : Int), .int .u64 ((if x < y + b then 1 else 0 : Nat) : Int)]) w := by
  have : b = 0 ∨ b = 1 := by omega
  rcases this with rfl | rfl <;> rfl
theorem add64_any (x y c : Nat) (hc : c ≤ 1) (w : World) :
    (callFunc 100 #[.int .u64 x, .int .u64 y, .int .u64 c]).run Try.prog w =
      .ok (.value (.tuple #[.int .u64 (((x + y + c) % 18446744073709551616 : Nat) : Int), .int .u64 (((x + y + c) / 18446744073709551616 : Nat) : Int)])) w := by
  rw [run_callFunc_extern Try.func100 (by kernel_rfl) (by kernel_rfl) (by kernel_rfl) (e := add64Entry) (by kernel_rfl), run_add64 x y c (by omega) (by omega) (by omega) (by omega)]
  simp only [Result.andThen]
  congr 5 <;> omega
theorem sub64_any (x y b : Nat) (hb : b ≤ 1) (w : World) :
    (callFunc 102 #[.int .u64 x, .int .u64 y, .int .u64 b]).run Try.prog w =
      .ok (.value (.tuple #[.int .u64 (((x + 18446744073709551616 - y - b) % 18446744073709551616 : Nat) : Int), .int .u64 ((if x < y + b then 1 else 0 : Nat) : Int)])) w := by
  rw [run_callFunc_extern Try.func102 (by kernel_rfl) (by kernel_rfl) (by kernel_rfl) (e := sub64Entry) (by kernel_rfl), run_sub64 x y b hb]
  rfl
end Go.Proofs.Ytapojpjmeadabaa

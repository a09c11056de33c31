/- Numbers of 32 bytes, and their four words, in plain Lean. -/
import Derived.Test.YtapojpjmeadabaaParts
namespace Go.Proofs.Ytapojpjmeadabaa
open Go.RowKit
set_option linter.unusedVariables false
set_option linter.unusedSimpArgs false

theorem foldl_spell (l : List UInt8) : ∀ a : Nat, l.foldl (fun x b => x * 256 + b.toNat) a = a * 256 ^ l.length + spell l := by
  unfold spell
  induction l with
  | nil => intro a; simp
  | cons x l ih =>
    intro a
    simp only [List.foldl_cons, List.length_cons]
    rw [ih, ih (0 * 256 + x.toNat), Nat.pow_succ, Nat.add_mul, Nat.mul_assoc, Nat.mul_comm 256, Nat.zero_mul, Nat.zero_add, Nat.add_assoc]
theorem spell_app (a b : List UInt8) : spell (a ++ b) = spell a * 256 ^ b.length + spell b := by
  conv => lhs; unfold spell
  rw [List.foldl_append, foldl_spell b]
  rfl
theorem spell_cons (x : UInt8) (l : List UInt8) : spell (x :: l) = x.toNat * 256 ^ l.length + spell l := by
  have := spell_app [x] l
  simpa [spell] using this
theorem be_congr (n m : Nat) : ∀ k, n % 256 ^ k = m % 256 ^ k → be n k = be m k
  | 0, _ => rfl
  | k + 1, h => by
    have h1 : n / 256 ^ k % 256 = m / 256 ^ k % 256 := by
      rw [← Nat.mod_mul_right_div_self, ← Nat.mod_mul_right_div_self m, ← Nat.pow_succ, h]
    have h2 : n % 256 ^ k = m % 256 ^ k := by
      have e1 := Nat.mod_mod_of_dvd n (Nat.pow_dvd_pow 256 (Nat.le_succ k))
      have e2 := Nat.mod_mod_of_dvd m (Nat.pow_dvd_pow 256 (Nat.le_succ k))
      rw [← e1, ← e2]
      show n % 256 ^ (k + 1) % _ = m % 256 ^ (k + 1) % _
      rw [h]
    unfold be
    rw [be_congr n m k h2]
    congr 1
    apply UInt8.toNat_inj.1
    simp only [UInt8.toNat_ofNat']
    exact h1
theorem spell_be (n : Nat) : ∀ k, spell (be n k) = n % 256 ^ k
  | 0 => by simp [be, spell, Nat.mod_one]
  | k + 1 => by
    unfold be
    rw [spell_cons, spell_be n k, be_length, Nat.mod_pow_succ, UInt8.toNat_ofNat', Nat.mul_comm, Nat.add_comm]
theorem be_spell : ∀ l : List UInt8, be (spell l) l.length = l
  | [] => rfl
  | x :: l => by
    have h := be_spell l
    have hl := spell_lt l
    have e : be (spell (x :: l)) l.length = l := by
      rw [be_congr _ (spell l) _ (by rw [spell_cons, Nat.mul_add_mod_of_lt hl, Nat.mod_eq_of_lt hl]), h]
    show be (spell (x :: l)) (l.length + 1) = _
    unfold be
    rw [e, spell_cons, Nat.add_comm, Nat.add_mul_div_right _ _ (Nat.pow_pos (by omega)), Nat.div_eq_of_lt hl, Nat.zero_add]
    congr 1
    apply UInt8.toNat_inj.1
    simp
theorem be_app (n m : Nat) : ∀ j, be n (j + m) = be (n / 256 ^ m) j ++ be n m
  | 0 => by simp [be]
  | j + 1 => by
    rw [show j + 1 + m = (j + m) + 1 by omega]
    conv => lhs; unfold be
    rw [be_app n m j]
    conv => rhs; arg 1; unfold be
    rw [Nat.div_div_eq_div_mul, ← Nat.pow_add, Nat.add_comm m j]
    rfl
theorem spell_inj {a b : List UInt8} (hl : a.length = b.length) (h : spell a = spell b) : a = b := by
  rw [← be_spell a, ← be_spell b, h, hl]

/-- The word of a number. -/
def wd (n i : Nat) : Nat := n / 2 ^ (64 * i) % 18446744073709551616
theorem wd_lt (n i : Nat) : wd n i < 18446744073709551616 := Nat.mod_lt _ (by omega)
/-- What words come to. -/
def val (f : Nat → Nat) : Nat → Nat
  | 0 => 0
  | k + 1 => val f k + f k * 2 ^ (64 * k)
theorem val_congr {f g : Nat → Nat} : ∀ k, (∀ i, i < k → f i = g i) → val f k = val g k
  | 0, _ => rfl
  | k + 1, h => by simp only [val]; rw [val_congr k (fun i hi => h i (by omega)), h k (by omega)]
theorem val_lt {f : Nat → Nat} : ∀ k, (∀ i, i < k → f i < 18446744073709551616) → val f k < 2 ^ (64 * k)
  | 0, _ => by simp [val]
  | k + 1, h => by
    have h1 := val_lt k (fun i hi => h i (by omega))
    have h2 := h k (by omega)
    simp only [val]
    rw [show 2 ^ (64 * (k + 1)) = 18446744073709551616 * 2 ^ (64 * k) by rw [Nat.mul_add, Nat.pow_add, Nat.mul_comm]]
    have h3 : f k * 2 ^ (64 * k) ≤ 18446744073709551615 * 2 ^ (64 * k) := Nat.mul_le_mul_right _ (by omega)
    omega
theorem val_wd (n : Nat) : ∀ k, val (wd n) k = n % 2 ^ (64 * k)
  | 0 => by simp [val, Nat.mod_one]
  | k + 1 => by
    simp only [val, val_wd n k, wd]
    rw [show 2 ^ (64 * (k + 1)) = 2 ^ (64 * k) * 18446744073709551616 by rw [Nat.mul_add, Nat.pow_add], Nat.mod_mul, Nat.mul_comm (n / _ % _)]
theorem spell_wd (l : List UInt8) (hl : l.length = 32) (i : Nat) (hi : i < 4) : spell ((l.take (32 - 8 * i)).drop (24 - 8 * i)) = wd (spell l) i := by
  have e : l = l.take (24 - 8 * i) ++ ((l.take (32 - 8 * i)).drop (24 - 8 * i) ++ l.drop (32 - 8 * i)) := by
    have h1 : l.take (24 - 8 * i) = (l.take (32 - 8 * i)).take (24 - 8 * i) := by rw [List.take_take, Nat.min_eq_left (by omega)]
    rw [← List.append_assoc, h1, List.take_append_drop, List.take_append_drop]
  have e2 := congrArg spell e
  rw [spell_app, spell_app] at e2
  have hs := spell_lt ((l.take (32 - 8 * i)).drop (24 - 8 * i))
  have hc := spell_lt (l.drop (32 - 8 * i))
  simp only [List.length_append, List.length_drop, List.length_take, hl] at e2 hs hc
  generalize spell (l.take (24 - 8 * i)) = A at *
  generalize spell ((l.take (32 - 8 * i)).drop (24 - 8 * i)) = S at *
  generalize spell (l.drop (32 - 8 * i)) = C at *
  clear e
  unfold wd
  rw [e2]
  have : i = 0 ∨ i = 1 ∨ i = 2 ∨ i = 3 := by omega
  rcases this with rfl | rfl | rfl | rfl <;> simp at * <;> omega
/-- A sum, a difference. -/
def addD (a b : List UInt8) : List UInt8 := be (spell a + spell b) 32
def subD (a b : List UInt8) : List UInt8 := be (spell a + 256 ^ 32 - spell b) 32
theorem addD_length (a b : List UInt8) : (addD a b).length = 32 := be_length _ _
theorem subD_length (a b : List UInt8) : (subD a b).length = 32 := be_length _ _
theorem addD_comm (a b : List UInt8) : addD a b = addD b a := by unfold addD; rw [Nat.add_comm]
theorem spell_addD (a b : List UInt8) : spell (addD a b) = (spell a + spell b) % 256 ^ 32 := spell_be _ _
theorem addD_assoc (a b c : List UInt8) : addD (addD a b) c = addD a (addD b c) := by
  unfold addD
  apply be_congr
  rw [spell_be, spell_be, Nat.mod_add_mod, Nat.add_mod_mod, Nat.add_assoc]
theorem subD_addD (a b : List UInt8) (ha : a.length = 32) (hb : b.length = 32) : subD (addD a b) b = a := by
  have h1 := spell_lt a
  have h2 := spell_lt b
  rw [ha] at h1
  rw [hb] at h2
  have h3 := spell_addD a b
  have h4 : be (spell a) 32 = a := ha ▸ be_spell a
  unfold subD
  rw [h3]
  conv => rhs; rw [← h4]
  apply be_congr
  generalize spell a = x at *
  generalize spell b = y at *
  simp only [show (256 : Nat) ^ 32 = 115792089237316195423570985008687907853269984665640564039457584007913129639936 from rfl] at *
  omega
theorem addD_zero (a : List UInt8) (ha : a.length = 32) : addD a (Sha.zeros 32) = a := by
  have h4 : be (spell a) 32 = a := ha ▸ be_spell a
  have h5 : spell (Sha.zeros 32) = 0 := by decide +kernel
  unfold addD
  rw [h5, Nat.add_zero, h4]
end Go.Proofs.Ytapojpjmeadabaa

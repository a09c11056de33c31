/- Lawx, Flp: several texts in one. -/
import Derived.Test.YtapojpjmeadabaaZCho3
section
/- Comparisons with a constant, their answer known. -/
namespace Go.Proofs.Ytapojpjmeadabaa
open Go.RowKit
set_option linter.unusedVariables false
set_option linter.unusedSimpArgs false
attribute [local go_sem] lt_ext cell?_ext frozen?_ext shape?_ext

theorem exec_gtr {o : Oper} {ρ : Operand → Value} (p : Operand) (c : Int) (t : TypeId) (ho : o.op = .binOp .gtr 3 p (.const (.int .i64 c)) t) (n : Int) (hp : ρ p = .int .i64 n) (hc : ρ (.const (.int .i64 c)) = .int .i64 c) (b : Bool) (hb : decide (c < n) = b) (w : World) :
    (execOp ρ o).run Try.prog w = .ok (.value (.bool b)) w := by
  unfold execOp
  simp only [ho, hp, hc]
  go_simp
end Go.Proofs.Ytapojpjmeadabaa
end

section
/- A bit turned: plain. -/
namespace Go.Proofs.Ytapojpjmeadabaa
open Go.RowKit
set_option linter.unusedVariables false
set_option linter.unusedSimpArgs false
attribute [local go_sem] lt_ext cell?_ext frozen?_ext shape?_ext

theorem turn_same : ∀ (x : Fin 256) (r : Fin 8), ((x.1 ^^^ 2 ^ r.1) % 256) / 2 ^ r.1 % 2 = 1 - x.1 / 2 ^ r.1 % 2 := by decide +kernel
theorem turn_other : ∀ (x : Fin 256) (r s : Fin 8), r ≠ s → ((x.1 ^^^ 2 ^ r.1) % 256) / 2 ^ s.1 % 2 = x.1 / 2 ^ s.1 % 2 := by decide +kernel
theorem turn_small : ∀ (x : Fin 256) (r m : Fin 8), r < m → x.1 / 2 ^ m.1 = 0 → ((x.1 ^^^ 2 ^ r.1) % 256) / 2 ^ m.1 = 0 := by decide +kernel
theorem turn_twice : ∀ (x : Fin 256) (r : Fin 8), ((((x.1 ^^^ 2 ^ r.1) % 256) ^^^ 2 ^ r.1) % 256) = x.1 := by decide +kernel
theorem flipN_len (sl : List UInt8) (k : Nat) : (flipN sl k).length = sl.length := by unfold flipN; rw [List.length_set]
theorem flipN_at (sl : List UInt8) (k : Nat) (h : k / 8 < sl.length) : ((flipN sl k).getD (k / 8) 0).toNat = ((sl.getD (k / 8) 0).toNat ^^^ 2 ^ (k % 8)) % 256 := by
  unfold flipN
  have : (sl.set (k / 8) (UInt8.ofNat ((sl.getD (k / 8) 0).toNat ^^^ 2 ^ (k % 8)))).getD (k / 8) 0 = UInt8.ofNat ((sl.getD (k / 8) 0).toNat ^^^ 2 ^ (k % 8)) := by
    rw [List.getD_eq_getElem?_getD, List.getElem?_set_self h]
    rfl
  rw [this, UInt8.toNat_ofNat']
theorem flipN_else (sl : List UInt8) (k i : Nat) (h : k / 8 ≠ i) : (flipN sl k).getD i 0 = sl.getD i 0 := by
  unfold flipN
  rw [List.getD_eq_getElem?_getD, List.getElem?_set_ne h, List.getD_eq_getElem?_getD]
theorem slot_flip (sl : List UInt8) (k : Nat) (h : k / 8 < sl.length) : slotN (flipN sl k) k = 1 - slotN sl k := by
  unfold slotN
  rw [flipN_at sl k h]
  exact turn_same ⟨_, (sl.getD (k / 8) 0).toNat_lt⟩ ⟨k % 8, by omega⟩
theorem slot_else (sl : List UInt8) (k o : Nat) (h : k / 8 < sl.length) (hne : o ≠ k) : slotN (flipN sl k) o = slotN sl o := by
  unfold slotN
  by_cases hq : k / 8 = o / 8
  · rw [← hq, flipN_at sl k h]
    exact turn_other ⟨_, (sl.getD (k / 8) 0).toNat_lt⟩ ⟨k % 8, by omega⟩ ⟨o % 8, by omega⟩ (fun e => by
      have : k % 8 = o % 8 := congrArg Fin.val e
      omega)
  · rw [flipN_else sl k _ hq]
theorem flip_ne (sl : List UInt8) (k : Nat) (h : k / 8 < sl.length) : flipN sl k ≠ sl := by
  intro e
  have h1 := slot_flip sl k h
  rw [e] at h1
  have h2 : slotN sl k < 2 := Nat.mod_lt _ (by decide)
  omega
theorem slotN_lt (sl : List UInt8) (k : Nat) : slotN sl k < 2 := Nat.mod_lt _ (by decide)
theorem right_flip (N : Nat) (sl : List UInt8) (su : List (List UInt8)) (k : Nat) (hk : k < N) (h : rightB N sl su = true) : rightB N (flipN sl k) su = true := by
  unfold rightB rightN at *
  simp only [Int.toNat_natCast, Bool.and_eq_true, Bool.or_eq_true, decide_eq_true_eq] at *
  obtain ⟨⟨h1, h2⟩, ⟨h3, h4⟩, h5⟩ := h
  refine ⟨⟨h1, h2⟩, ⟨by rw [flipN_len]; exact h3, h4⟩, ?_⟩
  rcases h5 with h5 | h5
  · exact .inl h5
  · by_cases h0 : N % 8 = 0
    · exact .inl h0
    right
    rw [flipN_len]
    by_cases hq : k / 8 = sl.length - 1
    · rw [← hq]
      rw [← hq] at h5
      rw [flipN_at sl k (by omega)]
      exact turn_small ⟨_, (sl.getD (k / 8) 0).toNat_lt⟩ ⟨k % 8, by omega⟩ ⟨N % 8, by omega⟩ (by show k % 8 < N % 8; omega) h5
    · rw [flipN_else sl k _ hq]
      exact h5
theorem flipN_twice (sl : List UInt8) (k : Nat) (h : k / 8 < sl.length) : flipN (flipN sl k) k = sl := by
  apply List.ext_getElem
  · rw [flipN_len, flipN_len]
  · intro i h1 h2
    have hg : ∀ (l : List UInt8) (hi : i < l.length), l[i] = l.getD i 0 := fun l hi => by simp [List.getD, hi]
    rw [hg _ h1, hg _ h2]
    by_cases hq : k / 8 = i
    · subst hq
      apply UInt8.toNat.inj
      rw [flipN_at (flipN sl k) k (by rw [flipN_len]; exact h), flipN_at sl k h]
      exact turn_twice ⟨_, (sl.getD (k / 8) 0).toNat_lt⟩ ⟨k % 8, by omega⟩
    · rw [flipN_else _ k i hq, flipN_else _ k i hq]
end Go.Proofs.Ytapojpjmeadabaa
end

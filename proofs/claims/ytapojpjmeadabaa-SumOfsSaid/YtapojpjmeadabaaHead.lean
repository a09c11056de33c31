/- The program's head, read once: three closed facts that every row asks. -/
import Derived.Test.YtapojpjmeadabaaRows
import Derived.ProofKit
namespace Go.Proofs.Ytapojpjmeadabaa
open Go Go.ChangeShapes Go.WideShapes Go.ChangeAt Go.RowKit

theorem wordsSigns_word (r : List Char) : ∀ w : List Char, (∀ c ∈ w, c ≠ ' ') → wordsSigns (w ++ ' ' :: r) = w :: wordsSigns r
  | [], _ => rfl
  | c :: w, h => by
    have hc : c ≠ ' ' := h c (by simp)
    have ih := wordsSigns_word r w fun x hx => h x (by simp [hx])
    generalize wordsSigns r = R at *
    show wordsSigns (c :: (w ++ ' ' :: r)) = _
    unfold wordsSigns
    split
    · rename_i e; cases e
    · rename_i e; injection e with e1 e2; exact absurd e1 hc
    · rename_i c' r' hne e
      injection e with e1 e2
      subst e1; subst e2
      rw [ih]
def sumL : List Char := ['4', 'a', 'f', '6', '4', 'b', 'f', '8', '9', '9', '2', '3', '2', 'a', '8', 'a', '9', '8', 'c', '4', '6', '0', 'a', 'e', '9', 'a', '7', '4', '2', '8', '1', 'f', 'e', '9', 'e', '0', '5', '2', '8', '4', '7', '7', '7', '6', '6', '1', '0', 'c', '1', 'd', '8', 'a', '7', 'd', '6', '5', 'c', '7', 'c', '8', 'b', 'a', '0', 'e']
def restL : List Char := ['a', 't', ' ', 's', 'a', 'c', 'r', 'i', 's', 't', 'a', 'n', '/', 's', 'a', 'c', 'r', 'i', 's', 't', 'a', 'n', 'l', 'a', 'w', '0', '2', '.', 'S', 'h', 'a', 'S', 'u', 'm', 's', ' ', 's', 'a', 'c', 'r', 'i', 's', 't', 'a', 'n', '/', 's', 'a', 'c', 'r', 'i', 's', 't', 'a', 'n', 'l', 'a', 'w', '0', '2', '.', 'S', 'h', 'a', 'S', 't', 'e', 'p', 's', ' ', 's', 'a', 'c', 'r', 'i', 's', 't', 'a', 'n', '/', 's', 'a', 'c', 'r', 'i', 's', 't', 'a', 'n', 'l', 'a', 'w', '0', '2', '.', 'S', 'h', 'a', 'C', 'o', 'p', 'i', 'e', 's', ' ', 's', 'a', 'c', 'r', 'i', 's', 't', 'a', 'n', '/', 's', 'a', 'c', 'r', 'i', 's', 't', 'a', 'n', 'l', 'a', 'w', '0', '2', '.', 'S', 'h', 'a', 'P', 'i', 'e', 'c', 'e', 's', ' ', 's', 'a', 'c', 'r', 'i', 's', 't', 'a', 'n', '/', 's', 'a', 'c', 'r', 'i', 's', 't', 'a', 'n', 'l', 'a', 'w', '0', '2', '.', 'S', 'h', 'a', 'O', 'n', 'e', ' ', 's', 'a', 'c', 'r', 'i', 's', 't', 'a', 'n', '/', 's', 'a', 'c', 'r', 'i', 's', 't', 'a', 'n', 'l', 'a', 'w', '0', '2', '.', 'S', 'h', 'a', 'P', 'a', 'd', 's', ' ', 's', 'a', 'c', 'r', 'i', 's', 't', 'a', 'n', '/', 's', 'a', 'c', 'r', 'i', 's', 't', 'a', 'n', 'l', 'a', 'w', '1', '0', '.', 'A', 'u', 'd', 'i', 't', 'H', 'e', 'a', 'p', 's', ' ', 's', 'a', 'c', 'r', 'i', 's', 't', 'a', 'n', '/', 's', 'a', 'c', 'r', 'i', 's', 't', 'a', 'n', 'l', 'a', 'w', '0', '3', '.', 'M', 'a', 'c', 'T', 'a', 'g', 's', ' ', 's', 'a', 'c', 'r', 'i', 's', 't', 'a', 'n', '/', 's', 'a', 'c', 'r', 'i', 's', 't', 'a', 'n', 'l', 'a', 'w', '0', '3', '.', 'M', 'a', 'c', 'C', 'h', 'e', 'c', 'k', 's', ' ', 's', 'a', 'c', 'r', 'i', 's', 't', 'a', 'n', '/', 's', 'a', 'c', 'r', 'i', 's', 't', 'a', 'n', 'l', 'a', 'w', '1', '0', '.', 'A', 'u', 'd', 'i', 't', 'S', 'a', 'm', 'e', ' ', 's', 'a', 'c', 'r', 'i', 's', 't', 'a', 'n', '/', 's', 'a', 'c', 'r', 'i', 's', 't', 'a', 'n', 'l', 'a', 'w', '0', '3', '.', 'M', 'a', 'c', 'K', 'e', 'y', 's', ' ', 's', 'a', 'c', 'r', 'i', 's', 't', 'a', 'n', '/', 's', 'a', 'c', 'r', 'i', 's', 't', 'a', 'n', 'l', 'a', 'w', '0', '3', '.', 'M', 'a', 'c', 'D', 'e', 'r', 'i', 'v', 'e', 's', ' ', 's', 'a', 'c', 'r', 'i', 's', 't', 'a', 'n', '/', 's', 'a', 'c', 'r', 'i', 's', 't', 'a', 'n', 'l', 'a', 'w', '0', '3', '.', 'M', 'a', 'c', 'B', 'e', 'g', 'i', 'n', 's', ' ', 's', 'a', 'c', 'r', 'i', 's', 't', 'a', 'n', '/', 's', 'a', 'c', 'r', 'i', 's', 't', 'a', 'n', 'l', 'a', 'w', '0', '3', '.', 'M', 'a', 'c', 'P', 'a', 'r', 't', 's', ' ', 's', 'a', 'c', 'r', 'i', 's', 't', 'a', 'n', '/', 's', 'a', 'c', 'r', 'i', 's', 't', 'a', 'n', 'l', 'a', 'w', '0', '5', '.', 'S', 'u', 'm', 'O', 'f', 's', ' ', 's', 'a', 'c', 'r', 'i', 's', 't', 'a', 'n', '/', 's', 'a', 'c', 'r', 'i', 's', 't', 'a', 'n', 'l', 'a', 'w', '0', '5', '.', 'S', 'u', 'm', 'O', 'r', 'd', 'e', 'r', 's', ' ', 's', 'a', 'c', 'r', 'i', 's', 't', 'a', 'n', '/', 's', 'a', 'c', 'r', 'i', 's', 't', 'a', 'n', 'l', 'a', 'w', '0', '5', '.', 'S', 'u', 'm', 'I', 't', 'e', 'm', 's', ' ', 's', 'a', 'c', 'r', 'i', 's', 't', 'a', 'n', '/', 's', 'a', 'c', 'r', 'i', 's', 't', 'a', 'n', 'l', 'a', 'w', '0', '5', '.', 'S', 'u', 'm', 'K', 'e', 'y', 's', ' ', 's', 'a', 'c', 'r', 'i', 's', 't', 'a', 'n', '/', 's', 'a', 'c', 'r', 'i', 's', 't', 'a', 'n', 'l', 'a', 'w', '0', '8', '.', 'S', 'e', 'a', 'l', 'L', 'o', 'n', 'g', ' ', 's', 'a', 'c', 'r', 'i', 's', 't', 'a', 'n', '/', 's', 'a', 'c', 'r', 'i', 's', 't', 'a', 'n', 'l', 'a', 'w', '0', '8', '.', 'S', 'e', 'a', 'l', 'B', 'a', 'c', 'k', ' ', 's', 'a', 'c', 'r', 'i', 's', 't', 'a', 'n', '/', 's', 'a', 'c', 'r', 'i', 's', 't', 'a', 'n', 'l', 'a', 'w', '0', '8', '.', 'S', 'e', 'a', 'l', 'D', 'e', 'c', 'o', 'd', 'e', 's', ' ', 's', 'a', 'c', 'r', 'i', 's', 't', 'a', 'n', '/', 's', 'a', 'c', 'r', 'i', 's', 't', 'a', 'n', 'l', 'a', 'w', '0', '8', '.', 'S', 'e', 'a', 'l', 'C', 'h', 'o', 'o', 's', 'e', 's', ' ', 's', 'a', 'c', 'r', 'i', 's', 't', 'a', 'n', '/', 's', 'a', 'c', 'r', 'i', 's', 't', 'a', 'n', 'l', 'a', 'w', '0', '8', '.', 'S', 'e', 'a', 'l', 'O', 'r', 'd', 'e', 'r', ' ', 's', 'a', 'c', 'r', 'i', 's', 't', 'a', 'n', '/', 's', 'a', 'c', 'r', 'i', 's', 't', 'a', 'n', 'l', 'a', 'w', '0', '8', '.', 'S', 'e', 'a', 'l', 'E', 'n', 'c', 'o', 'd', 'e', 's', ' ', 's', 'a', 'c', 'r', 'i', 's', 't', 'a', 'n', '/', 's', 'a', 'c', 'r', 'i', 's', 't', 'a', 'n', 'l', 'a', 'w', '0', '8', '.', 'S', 'e', 'a', 'l', 'F', 'l', 'i', 'p', 's']
set_option maxRecDepth 100000 in
theorem head_list : Try.prog.initOrder.toList = ['h', 'a', 'r', 'n', 'e', 's', 's'] ++ ' ' :: (sumL ++ ' ' :: (['c', 'u', 't'] ++ ' ' :: restL)) := by
  have h : Try.prog.initOrder = String.ofList (['h', 'a', 'r', 'n', 'e', 's', 's'] ++ ' ' :: (sumL ++ ' ' :: (['c', 'u', 't'] ++ ' ' :: restL))) := by kernel_rfl
  rw [h, String.toList_ofList]
theorem behind_sum (r : List (List Char)) : behindMainWord (['h', 'a', 'r', 'n', 'e', 's', 's'] :: sumL :: r) = r := by
  have e : ((['h', 'a', 'r', 'n', 'e', 's', 's'] == "harness".toList || ['h', 'a', 'r', 'n', 'e', 's', 's'] == "ownmain".toList) && isSumSigns sumL) = true := by kernel_rfl
  show (if (((['h', 'a', 'r', 'n', 'e', 's', 's'] == "harness".toList || ['h', 'a', 'r', 'n', 'e', 's', 's'] == "ownmain".toList) && isSumSigns sumL) = true) then r else ['h', 'a', 'r', 'n', 'e', 's', 's'] :: sumL :: r) = r
  exact if_pos e
theorem head_words : behindMainWord (wordsSigns Try.prog.initOrder.toList) = ['c', 'u', 't'] :: wordsSigns restL := by
  rw [head_list, wordsSigns_word _ _ (by decide), wordsSigns_word _ _ (by decide), wordsSigns_word _ _ (by decide), behind_sum]
theorem strip_cut (r : List (List Char)) : stripLifts liftWords (['c', 'u', 't'] :: r) = ([], ['c', 'u', 't'] :: r) := by
  have e : ∀ o ∈ liftWords, (['c', 'u', 't'] == o.toList) = false := by decide +kernel
  have : ∀ os : List String, (∀ o ∈ os, (['c', 'u', 't'] == o.toList) = false) → stripLifts os (['c', 'u', 't'] :: r) = ([], ['c', 'u', 't'] :: r) := by
    intro os
    induction os with
    | nil => intro _; rfl
    | cons o os ih =>
      intro h
      unfold stripLifts
      rw [if_neg (by rw [h o (by simp)]; exact Bool.false_ne_true)]
      exact ih fun x hx => h x (by simp [hx])
  exact this _ e
theorem head_lifts : Try.prog.headLifts = [] := by
  unfold Program.headLifts
  rw [head_words, strip_cut]
  generalize wordsSigns restL = R
  simp only [ite_self]
theorem head_lifted : Try.prog.liftsFinal = false := by
  unfold Program.liftsFinal
  rw [head_lifts, head_words]
  generalize wordsSigns restL = R
  have e : ((['c', 'u', 't'] :: R).head? == some "carried".toList) = false := by
    show (some ['c', 'u', 't'] == some "carried".toList) = false
    kernel_rfl
  simp only [e, Bool.false_and, Bool.false_or]
  rfl
theorem make_of (P : Program) (R : List (List Char)) (h : behindMainWord (wordsSigns P.initOrder.toList) = ['c', 'u', 't'] :: R) : P.make = some .cut := by
  unfold Program.make
  rw [h]
  have e1 : ((['c', 'u', 't'] == "gc".toList) || (['c', 'u', 't'] == "spec".toList)) = false := by kernel_rfl
  have e2 : (['c', 'u', 't'] == "cut".toList) = true := by kernel_rfl
  simp only [e1, e2, Bool.true_or, Bool.false_eq_true, if_false, if_true]
theorem head_make : Try.prog.make = some .cut := make_of Try.prog (wordsSigns restL) head_words
theorem head_later : Try.prog.laysLater = false := by kernel_rfl
theorem head_reflect : Try.prog.bearsReflect = false := by kernel_rfl
theorem head_door : Try.prog.doorFits [] = true := by kernel_rfl
theorem enter_of (P : Program) (R : List (List Char)) (h : behindMainWord (wordsSigns P.initOrder.toList) = ['c', 'u', 't'] :: R) (h1 : P.laysLater = false) (h2 : P.bearsReflect = false) (h3 : P.doorFits [] = true) : P.mayEnter = true := by
  unfold Program.mayEnter
  rw [h]
  have e : (some ['c', 'u', 't'] == some "cut".toList) = true := by kernel_rfl
  simp only [strip_cut, h1, h2, h3, List.head?_cons, e, Bool.not_false, Bool.or_true, Bool.and_true, Bool.true_and]
  rfl
theorem head_enter : Try.prog.mayEnter = true := enter_of Try.prog (wordsSigns restL) head_words head_later head_reflect head_door
end Go.Proofs.Ytapojpjmeadabaa

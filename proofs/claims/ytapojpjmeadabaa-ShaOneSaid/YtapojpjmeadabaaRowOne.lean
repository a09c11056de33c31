/- ShaOne: whatever the input, the answer is true, and the input reads as it did. -/
import Derived.Test.YtapojpjmeadabaaLaw
import Derived.Test.YtapojpjmeadabaaHead
import Derived.Test.YtapojpjmeadabaaOne
namespace Go.Proofs.Ytapojpjmeadabaa
open Go.ChangeShapes Go.WideShapes Go.ChangeAt Go.RowKit
set_option linter.unusedVariables false
set_option linter.unusedSimpArgs false

set_option maxRecDepth 100000 in
theorem shaOne_lifted (os : Os) (started : os.Started) (H : Type) (enc : TypeId × Value → H) :
    ReturnsInHanded {} Try.checked os 7 .any (Rows.shaOneSpec.pre6 enc Try.prog Try.f7 Rows.shaOneRow.domain false) (Rows.shaOneSpec.post enc Try.prog Try.f7 false true false false) := by
  refine returnsInHanded_of_change_sized (C := Try.checked) Try.own started (by kernel_rfl) Try.func7
    (ChangeSpec.witness6 (enc := enc) (C := Try.checked) false ⟨#[], #[.slice none 0 0, .slice none 0 0, .slice none 0 0], []⟩ 8 (by kernel_rfl) (by kernel_rfl) (by kernel_rfl) (by kernel_rfl)) ?_
  intro W base args ds gs before hval0 hW hcnd hz0 _
  have hz : (DataW.weightsEach Try.prog (Try.f7.params.toList ++ Rows.shaOneSpec.plain.varTypes Try.prog) (ds ++ gs)).all (· ≤ reachBytes) = true := hz0
  have hval : ∀ (j : Nat) t v, Try.f7.params[j]? = some t → args[j]? = some v → Value.okWide Try.prog W .any base t v := hval0
  have hW' := hW
  obtain ⟨p, q, hA0, hV, rfl, hfz, hnd⟩ := hW
  have hA : DataW.TrodAll enc Try.prog W 0 (fun _ => true) true Try.f7.params.toList args.toList ds p := hA0
  rw [Try.params7] at hA hval hz
  obtain ⟨v0, v1, v2, d0, d1, d2, p0, p1, p2, rfl, rfl, rfl, h0, h1, h2⟩ := trodAll_three hA
  clear hA0 hval0 hz0
  obtain ⟨la, ha, ea⟩ := open_bs_sized hz 0 rfl rfl (hval 0 23 v0 rfl rfl) h0
  obtain ⟨lb, hb, eb⟩ := open_bs_sized hz 1 rfl rfl (hval 1 23 v1 rfl rfl) h1
  obtain ⟨lc, hc, ec⟩ := open_bs_sized hz 2 rfl rfl (hval 2 23 v2 rfl rfl) h2
  refine (one_any v0 v1 v2 la lb lc ea eb ec W ha hb hc).mono fun e W' ⟨he, hw⟩ => ?_
  subst he
  exact ⟨_, rfl, law_post rfl hW' rfl rfl rfl rfl (by rw [Try.params7]; intro t ht; simp only [List.mem_cons, List.not_mem_nil, or_false] at ht; rcases ht with rfl | rfl | rfl <;> exact ⟨by kernel_rfl, of_decide_eq_true (by kernel_rfl)⟩) hw⟩

set_option maxRecDepth 100000 in
theorem shaOne_closed : joinedFacts Try.prog 7 Try.f7 Rows.shaOneSpec Rows.shaOneRow = true := by
  unfold joinedFacts
  rw [head_enter, head_lifted, head_make]
  kernel_rfl

theorem shaOne_holds : Rows.ShaOneSaid :=
  OpenClaim.holds_of_wide 7 Try.f7 rfl rfl rfl rfl rfl rfl rfl ⟨rfl, rfl, rfl, rfl, rfl⟩ rfl rfl rfl rfl rfl (by kernel_rfl) Try.func7 shaOne_closed
    (of_decide_eq_true (by kernel_rfl)) (by unfold Func.isWrapper; first | (rw [if_pos (by decide +kernel)]; kernel_rfl) | (rw [if_neg (by decide +kernel)]; exact ⟨rfl, rfl⟩))
    (fun os started H enc _ => shaOne_lifted os started H enc)

end Go.Proofs.Ytapojpjmeadabaa

/- ShaPads: whatever the input, the answer is true, and the input reads as it did. -/
import Derived.Test.YtapojpjmeadabaaLaw2
import Derived.Test.YtapojpjmeadabaaHead
import Derived.Test.YtapojpjmeadabaaPads
namespace Go.Proofs.Ytapojpjmeadabaa
open Go.ChangeShapes Go.WideShapes Go.ChangeAt Go.RowKit
set_option linter.unusedVariables false
set_option linter.unusedSimpArgs false

set_option maxRecDepth 100000 in
theorem shaPads_lifted (os : Os) (started : os.Started) (H : Type) (enc : TypeId × Value → H) :
    ReturnsInHanded {} Try.checked os 8 .any (Rows.shaPadsSpec.pre6 enc Try.prog Try.f8 Rows.shaPadsRow.domain false) (Rows.shaPadsSpec.post enc Try.prog Try.f8 false true false false) := by
  refine returnsInHanded_of_change_sized (C := Try.checked) Try.own started (by kernel_rfl) Try.func8
    (ChangeSpec.witness6 (enc := enc) (C := Try.checked) false ⟨#[], #[.int .u8 0, .int .u8 0], []⟩ 8 (by kernel_rfl) (by kernel_rfl) (by kernel_rfl) (by kernel_rfl)) ?_
  intro W base args ds gs before hval0 hW hcnd hz0 _
  have hz : (DataW.weightsEach Try.prog (Try.f8.params.toList ++ Rows.shaPadsSpec.plain.varTypes Try.prog) (ds ++ gs)).all (· ≤ reachBytes) = true := hz0
  have hval : ∀ (j : Nat) t v, Try.f8.params[j]? = some t → args[j]? = some v → Value.okWide Try.prog W .any base t v := hval0
  have hW' := hW
  obtain ⟨p, q, hA0, hV, rfl, hfz, hnd⟩ := hW
  have hA : DataW.TrodAll enc Try.prog W 0 (fun _ => true) true Try.f8.params.toList args.toList ds p := hA0
  rw [Try.params8] at hA hval hz
  obtain ⟨v0, v1, d0, d1, p0, p1, rfl, rfl, rfl, h0, h1⟩ := trodAll_two hA
  clear hA0 hval0 hz0
  obtain ⟨c, rfl⟩ := open_b8 (hval 0 5 v0 rfl rfl) h0
  obtain ⟨n, rfl⟩ := open_b8 (hval 1 5 v1 rfl rfl) h1
  refine (pads_any c n.toNat n.toNat_lt W).mono fun e W' ⟨he, hw⟩ => ?_
  subst he
  exact ⟨_, rfl, law_post rfl hW' rfl rfl rfl rfl (by rw [Try.params8]; intro t ht; simp only [List.mem_cons, List.not_mem_nil, or_false] at ht; rcases ht with rfl | rfl <;> exact ⟨by kernel_rfl, of_decide_eq_true (by kernel_rfl)⟩) hw⟩

set_option maxRecDepth 100000 in
theorem shaPads_closed : joinedFacts Try.prog 8 Try.f8 Rows.shaPadsSpec Rows.shaPadsRow = true := by
  unfold joinedFacts
  rw [head_enter, head_lifted, head_make]
  kernel_rfl

theorem shaPads_holds : Rows.ShaPadsSaid :=
  OpenClaim.holds_of_wide 8 Try.f8 rfl rfl rfl rfl rfl rfl rfl ⟨rfl, rfl, rfl, rfl, rfl⟩ rfl rfl rfl rfl rfl (by kernel_rfl) Try.func8 shaPads_closed
    (of_decide_eq_true (by kernel_rfl)) (by unfold Func.isWrapper; first | (rw [if_pos (by decide +kernel)]; kernel_rfl) | (rw [if_neg (by decide +kernel)]; exact ⟨rfl, rfl⟩))
    (fun os started H enc _ => shaPads_lifted os started H enc)

end Go.Proofs.Ytapojpjmeadabaa

/- ShaSteps: where the input is of bulk at most 1048576 the answer is true, and the input reads as it did. -/
import Derived.Test.YtapojpjmeadabaaLaw2
import Derived.Test.YtapojpjmeadabaaHead
import Derived.Test.YtapojpjmeadabaaSums
namespace Go.Proofs.Ytapojpjmeadabaa
open Go.ChangeShapes Go.WideShapes Go.ChangeAt Go.RowKit
set_option linter.unusedVariables false
set_option linter.unusedSimpArgs false

set_option maxRecDepth 100000 in
theorem shaSteps_lifted (os : Os) (started : os.Started) (H : Type) (enc : TypeId × Value → H) (F : Stop.Interp) :
    ReturnsInHanded {} Try.checked os 4 .any ((Rows.OpenSpec.upto Rows.shaStepsSpec).pre6 enc Try.prog Try.f4 Rows.shaStepsUptoRow.domain false) (((Rows.OpenSpec.upto Rows.shaStepsSpec).at F).post enc Try.prog Try.f4 false true false false) := by
  refine returnsInHanded_of_cond_sized (C := Try.checked) (s := Rows.OpenSpec.upto Rows.shaStepsSpec) (k := Rows.uptoSmall) rfl Try.own started (by kernel_rfl) Try.func4
    (OpenSpec.witness (enc := enc) (C := Try.checked) (s := Rows.OpenSpec.upto Rows.shaStepsSpec) (k := Rows.uptoSmall) rfl false ⟨#[], #[.slice none 0 0], []⟩ 8 (by kernel_rfl) (by kernel_rfl) (by kernel_rfl)
      (x := ([.nil], [], [])) (by kernel_rfl) rfl (by kernel_rfl)) ?_
  intro W base args ds gs before hval0 hW hcnd hk0 hz0 _
  have hz : (DataW.weightsEach Try.prog (Try.f4.params.toList ++ Rows.shaStepsSpec.plain.varTypes Try.prog) (ds ++ gs)).all (· ≤ reachBytes) = true := hz0
  have hval : ∀ (j : Nat) t v, Try.f4.params[j]? = some t → args[j]? = some v → Value.okWide Try.prog W .any base t v := hval0
  have hk := bulk_small hk0
  have hW' := hW
  obtain ⟨p, q, hA0, hV, rfl, hfz, hnd⟩ := hW
  have hA : DataW.TrodAll enc Try.prog W 0 (fun _ => true) true Try.f4.params.toList args.toList ds p := hA0
  rw [Try.params4] at hA hval hz
  obtain ⟨v0, d0, rfl, rfl, h0⟩ := trodAll_one hA
  clear hA0 hval0 hz0
  obtain ⟨vs, ls, hl, hb⟩ := open_rss (hval 0 22 v0 rfl rfl) h0
  have hk1 : Rows.uptoBulk d0 ≤ 1048576 := Nat.le_trans (Nat.le_add_right _ _) hk
  refine (steps_any v0 vs ls W hl (Nat.le_trans hb hk1)).mono fun e W' ⟨he, hw⟩ => ?_
  subst he
  exact ⟨_, rfl, law_post rfl hW' rfl rfl rfl rfl (by rw [Try.params4]; intro t ht; simp only [List.mem_cons, List.not_mem_nil, or_false] at ht; rcases ht with rfl <;> exact ⟨by kernel_rfl, of_decide_eq_true (by kernel_rfl)⟩) hw⟩

set_option maxRecDepth 100000 in
theorem shaSteps_closed : joinedFacts Try.prog 4 Try.f4 Rows.shaStepsSpec Rows.shaStepsUptoRow = true := by
  unfold joinedFacts
  rw [head_enter, head_lifted, head_make]
  kernel_rfl

set_option maxRecDepth 100000 in
theorem shaSteps_holds : Rows.ShaStepsUptoSaid :=
  OpenClaim.holds_of_cond 4 Try.f4 rfl rfl rfl rfl rfl rfl rfl ⟨rfl, rfl, rfl, rfl, rfl⟩ rfl rfl rfl rfl rfl (by kernel_rfl) Try.func4 shaSteps_closed
    (of_decide_eq_true (by kernel_rfl)) (by unfold Func.isWrapper; first | (rw [if_pos (by decide +kernel)]; kernel_rfl) | (rw [if_neg (by decide +kernel)]; exact ⟨rfl, rfl⟩))
    (fun os started H enc _ F => shaSteps_lifted os started H enc F)

end Go.Proofs.Ytapojpjmeadabaa

/- SumKeys: whatever the input, the answer is true, and the input reads as it did. -/
import Derived.Test.YtapojpjmeadabaaZLaw
import Derived.Test.YtapojpjmeadabaaZLaw5
import Derived.Test.YtapojpjmeadabaaZSkeys
namespace Go.Proofs.Ytapojpjmeadabaa
open Go.ChangeShapes Go.WideShapes Go.ChangeAt Go.RowKit
set_option linter.unusedVariables false
set_option linter.unusedSimpArgs false

set_option maxRecDepth 100000 in
theorem sumKeys_lifted (os : Os) (started : os.Started) (H : Type) (enc : TypeId × Value → H) :
    ReturnsInHanded {} Try.checked os 20 .any (Rows.sumKeysSpec.pre6 enc Try.prog Try.f20 Rows.sumKeysRow.domain false) (Rows.sumKeysSpec.post enc Try.prog Try.f20 false true false false) := by
  refine returnsInHanded_of_change_sized (C := Try.checked) Try.own started (by kernel_rfl) Try.func20
    (ChangeSpec.witness6 (enc := enc) (C := Try.checked) false ⟨#[], #[.slice none 0 0, .int .i64 0, .slice none 0 0, .slice none 0 0], []⟩ 8 (by kernel_rfl) (by kernel_rfl) (by kernel_rfl) (by kernel_rfl)) ?_
  intro W base args ds gs before hval0 hW hcnd hz0 _
  have hz : (DataW.weightsEach Try.prog (Try.f20.params.toList ++ Rows.sumKeysSpec.plain.varTypes Try.prog) (ds ++ gs)).all (· ≤ reachBytes) = true := hz0
  have hval : ∀ (j : Nat) t v, Try.f20.params[j]? = some t → args[j]? = some v → Value.okWide Try.prog W .any base t v := hval0
  have hW' := hW
  obtain ⟨p, q, hA0, hV, rfl, hfz, hnd⟩ := hW
  have hA : DataW.TrodAll enc Try.prog W 0 (fun _ => true) true Try.f20.params.toList args.toList ds p := hA0
  rw [Try.params20] at hA hval hz
  obtain ⟨v0, v1, v2, v3, d0, d1, d2, d3, p0, p1, p2, p3, rfl, rfl, rfl, h0, h1, h2, h3⟩ := trodAll_four hA
  clear hA0 hval0 hz0
  obtain ⟨key, hK⟩ := open_bs (hval 0 23 v0 rfl rfl) h0
  obtain ⟨z, rfl, _, _⟩ := open_i64 (hval 1 3 v1 rfl rfl) h1
  obtain ⟨b, hB⟩ := open_bs (hval 2 23 v2 rfl rfl) h2
  obtain ⟨xs, hI, hxs⟩ := open_its_sized hz 3 rfl rfl (hval 3 38 v3 rfl rfl) h3
  refine (sumkeys_any v0 v2 v3 key b z xs W hK hB hI hxs).mono fun e W' ⟨he, hw⟩ => ?_
  subst he
  exact ⟨_, rfl, law_post rfl hW' rfl rfl rfl rfl (by rw [Try.params20]; intro t ht; simp only [List.mem_cons, List.not_mem_nil, or_false] at ht; rcases ht with rfl | rfl | rfl | rfl <;> exact ⟨by kernel_rfl, of_decide_eq_true (by kernel_rfl)⟩) hw⟩

set_option maxRecDepth 100000 in
theorem sumKeys_closed : joinedFacts Try.prog 20 Try.f20 Rows.sumKeysSpec Rows.sumKeysRow = true := by
  unfold joinedFacts
  rw [head_enter, head_lifted, head_make]
  kernel_rfl

set_option maxRecDepth 100000 in
theorem sumKeys_holds : Rows.SumKeysSaid :=
  OpenClaim.holds_of_wide 20 Try.f20 rfl rfl rfl rfl rfl rfl rfl ⟨rfl, rfl, rfl, rfl, rfl⟩ rfl rfl rfl rfl rfl (by kernel_rfl) Try.func20 sumKeys_closed
    (of_decide_eq_true (by kernel_rfl)) (by unfold Func.isWrapper; first | (rw [if_pos (by decide +kernel)]; kernel_rfl) | (rw [if_neg (by decide +kernel)]; exact ⟨rfl, rfl⟩))
    (fun os started H enc _ => sumKeys_lifted os started H enc)

end Go.Proofs.Ytapojpjmeadabaa

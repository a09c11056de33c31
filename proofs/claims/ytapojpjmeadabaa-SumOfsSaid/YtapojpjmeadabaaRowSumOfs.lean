/- SumOfs: whatever the input, the answer is true, and the input reads as it did. -/
import Derived.Test.YtapojpjmeadabaaLaw2
import Derived.Test.YtapojpjmeadabaaHead
import Derived.Test.YtapojpjmeadabaaLaw5
import Derived.Test.YtapojpjmeadabaaSofs
namespace Go.Proofs.Ytapojpjmeadabaa
open Go.ChangeShapes Go.WideShapes Go.ChangeAt Go.RowKit
set_option linter.unusedVariables false
set_option linter.unusedSimpArgs false

set_option maxRecDepth 100000 in
theorem sumOfs_lifted (os : Os) (started : os.Started) (H : Type) (enc : TypeId × Value → H) :
    ReturnsInHanded {} Try.checked os 17 .any (Rows.sumOfsSpec.pre6 enc Try.prog Try.f17 Rows.sumOfsRow.domain false) (Rows.sumOfsSpec.post enc Try.prog Try.f17 false true false false) := by
  refine returnsInHanded_of_change_sized (C := Try.checked) Try.own started (by kernel_rfl) Try.func17
    (ChangeSpec.witness6 (enc := enc) (C := Try.checked) false ⟨#[], #[.slice none 0 0, .int .i64 0, .slice none 0 0, .slice none 0 0], []⟩ 8 (by kernel_rfl) (by kernel_rfl) (by kernel_rfl) (by kernel_rfl)) ?_
  intro W base args ds gs before hval0 hW hcnd hz0 _
  have hz : (DataW.weightsEach Try.prog (Try.f17.params.toList ++ Rows.sumOfsSpec.plain.varTypes Try.prog) (ds ++ gs)).all (· ≤ reachBytes) = true := hz0
  have hval : ∀ (j : Nat) t v, Try.f17.params[j]? = some t → args[j]? = some v → Value.okWide Try.prog W .any base t v := hval0
  have hW' := hW
  obtain ⟨p, q, hA0, hV, rfl, hfz, hnd⟩ := hW
  have hA : DataW.TrodAll enc Try.prog W 0 (fun _ => true) true Try.f17.params.toList args.toList ds p := hA0
  rw [Try.params17] at hA hval hz
  obtain ⟨v0, v1, v2, v3, d0, d1, d2, d3, p0, p1, p2, p3, rfl, rfl, rfl, h0, h1, h2, h3⟩ := trodAll_four hA
  clear hA0 hval0 hz0
  obtain ⟨key, hK⟩ := open_bs (hval 0 23 v0 rfl rfl) h0
  obtain ⟨z, rfl, _, _⟩ := open_i64 (hval 1 3 v1 rfl rfl) h1
  obtain ⟨b, hB⟩ := open_bs (hval 2 23 v2 rfl rfl) h2
  obtain ⟨xs, hI, hxs⟩ := open_its_sized hz 3 rfl rfl (hval 3 38 v3 rfl rfl) h3
  refine (sumofs_any v0 v2 v3 key b z xs W hK hB hI hxs).mono fun e W' ⟨he, hw⟩ => ?_
  subst he
  exact ⟨_, rfl, law_post rfl hW' rfl rfl rfl rfl (by rw [Try.params17]; intro t ht; simp only [List.mem_cons, List.not_mem_nil, or_false] at ht; rcases ht with rfl | rfl | rfl | rfl <;> exact ⟨by kernel_rfl, of_decide_eq_true (by kernel_rfl)⟩) hw⟩

set_option maxRecDepth 100000 in
theorem sumOfs_closed : joinedFacts Try.prog 17 Try.f17 Rows.sumOfsSpec Rows.sumOfsRow = true := by
  unfold joinedFacts
  rw [head_enter, head_lifted, head_make]
  kernel_rfl

set_option maxRecDepth 100000 in
theorem sumOfs_holds : Rows.SumOfsSaid :=
  OpenClaim.holds_of_wide 17 Try.f17 rfl rfl rfl rfl rfl rfl rfl ⟨rfl, rfl, rfl, rfl, rfl⟩ rfl rfl rfl rfl rfl (by kernel_rfl) Try.func17 sumOfs_closed
    (of_decide_eq_true (by kernel_rfl)) (by unfold Func.isWrapper; first | (rw [if_pos (by decide +kernel)]; kernel_rfl) | (rw [if_neg (by decide +kernel)]; exact ⟨rfl, rfl⟩))
    (fun os started H enc _ => sumOfs_lifted os started H enc)

end Go.Proofs.Ytapojpjmeadabaa

/- MacTags: where the input is of bulk at most 1048576 the answer is true, and the input reads as it did. -/
import Derived.Test.YtapojpjmeadabaaLaw2
import Derived.Test.YtapojpjmeadabaaHead
import Derived.Test.YtapojpjmeadabaaTags
namespace Go.Proofs.Ytapojpjmeadabaa
open Go.ChangeShapes Go.WideShapes Go.ChangeAt Go.RowKit
set_option linter.unusedVariables false
set_option linter.unusedSimpArgs false

set_option maxRecDepth 100000 in
theorem macTags_lifted (os : Os) (started : os.Started) (H : Type) (enc : TypeId × Value → H) (F : Stop.Interp) :
    ReturnsInHanded {} Try.checked os 10 .any ((Rows.OpenSpec.upto Rows.macTagsSpec).pre6 enc Try.prog Try.f10 Rows.macTagsUptoRow.domain false) (((Rows.OpenSpec.upto Rows.macTagsSpec).at F).post enc Try.prog Try.f10 false true false false) := by
  refine returnsInHanded_of_cond_sized (C := Try.checked) (s := Rows.OpenSpec.upto Rows.macTagsSpec) (k := Rows.uptoSmall) rfl Try.own started (by kernel_rfl) Try.func10
    (OpenSpec.witness (enc := enc) (C := Try.checked) (s := Rows.OpenSpec.upto Rows.macTagsSpec) (k := Rows.uptoSmall) rfl false ⟨#[], #[.slice none 0 0, .slice none 0 0, .slice none 0 0], []⟩ 8 (by kernel_rfl) (by kernel_rfl) (by kernel_rfl)
      (x := ([.nil, .nil, .nil], [], [])) (by kernel_rfl) rfl (by kernel_rfl)) ?_
  intro W base args ds gs before hval0 hW hcnd hk0 hz0 _
  have hz : (DataW.weightsEach Try.prog (Try.f10.params.toList ++ Rows.macTagsSpec.plain.varTypes Try.prog) (ds ++ gs)).all (· ≤ reachBytes) = true := hz0
  have hval : ∀ (j : Nat) t v, Try.f10.params[j]? = some t → args[j]? = some v → Value.okWide Try.prog W .any base t v := hval0
  have hk := bulk_small hk0
  have hW' := hW
  obtain ⟨p, q, hA0, hV, rfl, hfz, hnd⟩ := hW
  have hA : DataW.TrodAll enc Try.prog W 0 (fun _ => true) true Try.f10.params.toList args.toList ds p := hA0
  rw [Try.params10] at hA hval hz
  obtain ⟨v0, v1, v2, d0, d1, d2, p0, p1, p2, rfl, rfl, rfl, h0, h1, h2⟩ := trodAll_three hA
  clear hA0 hval0 hz0
  obtain ⟨key, hK⟩ := open_bs (hval 0 23 v0 rfl rfl) h0
  obtain ⟨vs, ls, hl, hb⟩ := open_rss (hval 1 22 v1 rfl rfl) h1
  obtain ⟨tag, hT⟩ := open_bs (hval 2 23 v2 rfl rfl) h2
  have hk1 : Rows.uptoBulk d1 ≤ 1048576 := Nat.le_trans (Nat.le_trans (Nat.le_add_right _ _) (Nat.le_add_left _ _)) hk
  refine (tags_any v0 v1 v2 key tag vs ls W hK hl hT (Nat.le_trans hb hk1)).mono fun e W' ⟨he, hw⟩ => ?_
  subst he
  exact ⟨_, rfl, law_post rfl hW' rfl rfl rfl rfl (by rw [Try.params10]; intro t ht; simp only [List.mem_cons, List.not_mem_nil, or_false] at ht; rcases ht with rfl | rfl | rfl <;> exact ⟨by kernel_rfl, of_decide_eq_true (by kernel_rfl)⟩) hw⟩

set_option maxRecDepth 100000 in
theorem macTags_closed : joinedFacts Try.prog 10 Try.f10 Rows.macTagsSpec Rows.macTagsUptoRow = true := by
  unfold joinedFacts
  rw [head_enter, head_lifted, head_make]
  kernel_rfl

set_option maxRecDepth 100000 in
theorem macTags_holds : Rows.MacTagsUptoSaid :=
  OpenClaim.holds_of_cond 10 Try.f10 rfl rfl rfl rfl rfl rfl rfl ⟨rfl, rfl, rfl, rfl, rfl⟩ rfl rfl rfl rfl rfl (by kernel_rfl) Try.func10 macTags_closed
    (of_decide_eq_true (by kernel_rfl)) (by unfold Func.isWrapper; first | (rw [if_pos (by decide +kernel)]; kernel_rfl) | (rw [if_neg (by decide +kernel)]; exact ⟨rfl, rfl⟩))
    (fun os started H enc _ F => macTags_lifted os started H enc F)

end Go.Proofs.Ytapojpjmeadabaa

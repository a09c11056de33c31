/-
  No cell of these rows narrows 'for every input' (looked for: loops, veiled, ifaces, maps, wideKeys, modest, calm, conditions, laid).
  DERIVED. THE GIVEN ROWS OF THIS SEAT. 25 by the template 'for every input the law returns true; each argument reads behind the call as it read before'; 0 by the template 'total and deterministic' (their statements: YtapojpjmeadabaaTotals.lean).
  GIVEN WITH THE SEED: the statements are not yours to turn. If you find one false, say at which input.
  Laid BY PROGRAM, IN A SANDBOX (cutbox-rows.mjs): the forced cells as the released guide's own fill.sh prints them over the translation f83b8bfa803e7bee… (all of the seat's roots in one cut). By AI agents, Wed Nov 11 2026. No macro, syntax, notation, axiom, sorry.
-/
import Derived.Test.YtapojpjmeadabaaChecked
import GoSem.Claim
import GoSem.ClaimJoined
import GoSem.ClaimMapViews
import Derived.JoinedTies
import Derived.KernelRfl
namespace Go.Proofs.Ytapojpjmeadabaa
/- THE CELL 'sum', in the pinned program and in every row, IS THE sha256 OF THE DUMP (.gsa) THAT YtapojpjmeadabaaProg.lean LOADS. Nothing in Lean hashes anything: it is a label: what it is worth is what the hold of that sum in a sandbox is worth. -/
noncomputable def Try.pinned : Pinned := { name := "ytapojpjmeadabaa", sum := "f83b8bfa803e7beef7804ba4277da6d34bd100af107304f254f32d0a25954e81", checked := Try.checked }
namespace Rows
def none {H : Type} : Left H := { results := [], args := [] }

/-- 'sacristanlaw02.ShaSums': WHATEVER THE INPUT: true; the input reads as it did. -/
def shaSumsSpec : ChangeSpec := { name := "shaSums", fn := fun _ => fun
  | [d] => { results := [.lit (.bool true)], args := [d] }
  | _ => none }
def shaSumsRow : OpenClaim := { program := "ytapojpjmeadabaa", sum := "f83b8bfa803e7beef7804ba4277da6d34bd100af107304f254f32d0a25954e81", func := "sacristan/sacristanlaw02.ShaSums", spec := "shaSums", plainKeys := false, apart := false }
def ShaSumsSaid : Prop := shaSumsRow.holds Try.pinned (OpenSpec.ofChange shaSumsSpec)

/-- ITS FALSE NEIGHBOUR: 'it returns false'. Refute it at one input. -/
def shaSumsWrong : ChangeSpec := { name := "shaSums", fn := fun _ => fun
  | [d] => { results := [.lit (.bool false)], args := [d] }
  | _ => none }
def ShaSumsWrongFalsely : Prop := shaSumsRow.holds Try.pinned (OpenSpec.ofChange shaSumsWrong)

/-- 'sacristanlaw02.ShaSteps': WHATEVER THE INPUT: true; the input reads as it did. -/
def shaStepsSpec : ChangeSpec := { name := "shaSteps", fn := fun _ => fun
  | [d] => { results := [.lit (.bool true)], args := [d] }
  | _ => none }
def shaStepsRow : OpenClaim := { program := "ytapojpjmeadabaa", sum := "f83b8bfa803e7beef7804ba4277da6d34bd100af107304f254f32d0a25954e81", func := "sacristan/sacristanlaw02.ShaSteps", spec := "shaSteps", plainKeys := false, apart := false }
def ShaStepsSaid : Prop := shaStepsRow.holds Try.pinned (OpenSpec.ofChange shaStepsSpec)

/-- ITS FALSE NEIGHBOUR: 'it returns false'. Refute it at one input. -/
def shaStepsWrong : ChangeSpec := { name := "shaSteps", fn := fun _ => fun
  | [d] => { results := [.lit (.bool false)], args := [d] }
  | _ => none }
def ShaStepsWrongFalsely : Prop := shaStepsRow.holds Try.pinned (OpenSpec.ofChange shaStepsWrong)

/-- 'sacristanlaw02.ShaCopies': WHATEVER THE INPUT: true; the input reads as it did. -/
def shaCopiesSpec : ChangeSpec := { name := "shaCopies", fn := fun _ => fun
  | [d1, d2, d3] => { results := [.lit (.bool true)], args := [d1, d2, d3] }
  | _ => none }
def shaCopiesRow : OpenClaim := { program := "ytapojpjmeadabaa", sum := "f83b8bfa803e7beef7804ba4277da6d34bd100af107304f254f32d0a25954e81", func := "sacristan/sacristanlaw02.ShaCopies", spec := "shaCopies", plainKeys := false, apart := false }
def ShaCopiesSaid : Prop := shaCopiesRow.holds Try.pinned (OpenSpec.ofChange shaCopiesSpec)

/-- ITS FALSE NEIGHBOUR: 'it returns false'. Refute it at one input. -/
def shaCopiesWrong : ChangeSpec := { name := "shaCopies", fn := fun _ => fun
  | [d1, d2, d3] => { results := [.lit (.bool false)], args := [d1, d2, d3] }
  | _ => none }
def ShaCopiesWrongFalsely : Prop := shaCopiesRow.holds Try.pinned (OpenSpec.ofChange shaCopiesWrong)

/-- 'sacristanlaw02.ShaPieces': WHATEVER THE INPUT: true; the input reads as it did. -/
def shaPiecesSpec : ChangeSpec := { name := "shaPieces", fn := fun _ => fun
  | [d1, d2] => { results := [.lit (.bool true)], args := [d1, d2] }
  | _ => none }
def shaPiecesRow : OpenClaim := { program := "ytapojpjmeadabaa", sum := "f83b8bfa803e7beef7804ba4277da6d34bd100af107304f254f32d0a25954e81", func := "sacristan/sacristanlaw02.ShaPieces", spec := "shaPieces", plainKeys := false, apart := false }
def ShaPiecesSaid : Prop := shaPiecesRow.holds Try.pinned (OpenSpec.ofChange shaPiecesSpec)

/-- ITS FALSE NEIGHBOUR: 'it returns false'. Refute it at one input. -/
def shaPiecesWrong : ChangeSpec := { name := "shaPieces", fn := fun _ => fun
  | [d1, d2] => { results := [.lit (.bool false)], args := [d1, d2] }
  | _ => none }
def ShaPiecesWrongFalsely : Prop := shaPiecesRow.holds Try.pinned (OpenSpec.ofChange shaPiecesWrong)

/-- 'sacristanlaw02.ShaOne': WHATEVER THE INPUT: true; the input reads as it did. -/
def shaOneSpec : ChangeSpec := { name := "shaOne", fn := fun _ => fun
  | [d1, d2, d3] => { results := [.lit (.bool true)], args := [d1, d2, d3] }
  | _ => none }
def shaOneRow : OpenClaim := { program := "ytapojpjmeadabaa", sum := "f83b8bfa803e7beef7804ba4277da6d34bd100af107304f254f32d0a25954e81", func := "sacristan/sacristanlaw02.ShaOne", spec := "shaOne", plainKeys := false, apart := false }
def ShaOneSaid : Prop := shaOneRow.holds Try.pinned (OpenSpec.ofChange shaOneSpec)

/-- ITS FALSE NEIGHBOUR: 'it returns false'. Refute it at one input. -/
def shaOneWrong : ChangeSpec := { name := "shaOne", fn := fun _ => fun
  | [d1, d2, d3] => { results := [.lit (.bool false)], args := [d1, d2, d3] }
  | _ => none }
def ShaOneWrongFalsely : Prop := shaOneRow.holds Try.pinned (OpenSpec.ofChange shaOneWrong)

/-- 'sacristanlaw02.ShaPads': WHATEVER THE INPUT: true; the input reads as it did. -/
def shaPadsSpec : ChangeSpec := { name := "shaPads", fn := fun _ => fun
  | [d1, d2] => { results := [.lit (.bool true)], args := [d1, d2] }
  | _ => none }
def shaPadsRow : OpenClaim := { program := "ytapojpjmeadabaa", sum := "f83b8bfa803e7beef7804ba4277da6d34bd100af107304f254f32d0a25954e81", func := "sacristan/sacristanlaw02.ShaPads", spec := "shaPads", plainKeys := false, apart := false }
def ShaPadsSaid : Prop := shaPadsRow.holds Try.pinned (OpenSpec.ofChange shaPadsSpec)

/-- ITS FALSE NEIGHBOUR: 'it returns false'. Refute it at one input. -/
def shaPadsWrong : ChangeSpec := { name := "shaPads", fn := fun _ => fun
  | [d1, d2] => { results := [.lit (.bool false)], args := [d1, d2] }
  | _ => none }
def ShaPadsWrongFalsely : Prop := shaPadsRow.holds Try.pinned (OpenSpec.ofChange shaPadsWrong)

/-- 'sacristanlaw10.AuditHeaps': WHATEVER THE INPUT: true; the input reads as it did. -/
def auditHeapsSpec : ChangeSpec := { name := "auditHeaps", fn := fun _ => fun
  | [d1, d2, d3] => { results := [.lit (.bool true)], args := [d1, d2, d3] }
  | _ => none }
def auditHeapsRow : OpenClaim := { program := "ytapojpjmeadabaa", sum := "f83b8bfa803e7beef7804ba4277da6d34bd100af107304f254f32d0a25954e81", func := "sacristan/sacristanlaw10.AuditHeaps", spec := "auditHeaps", inPlace := ["math/bits.Add64"], unfollowed := true, recurses := true, plainKeys := false, apart := false }
def AuditHeapsSaid : Prop := auditHeapsRow.holds Try.pinned (OpenSpec.ofChange auditHeapsSpec)

/-- ITS FALSE NEIGHBOUR: 'it returns false'. Refute it at one input. -/
def auditHeapsWrong : ChangeSpec := { name := "auditHeaps", fn := fun _ => fun
  | [d1, d2, d3] => { results := [.lit (.bool false)], args := [d1, d2, d3] }
  | _ => none }
def AuditHeapsWrongFalsely : Prop := auditHeapsRow.holds Try.pinned (OpenSpec.ofChange auditHeapsWrong)

/-- 'sacristanlaw03.MacTags': WHATEVER THE INPUT: true; the input reads as it did. -/
def macTagsSpec : ChangeSpec := { name := "macTags", fn := fun _ => fun
  | [d1, d2, d3] => { results := [.lit (.bool true)], args := [d1, d2, d3] }
  | _ => none }
def macTagsRow : OpenClaim := { program := "ytapojpjmeadabaa", sum := "f83b8bfa803e7beef7804ba4277da6d34bd100af107304f254f32d0a25954e81", func := "sacristan/sacristanlaw03.MacTags", spec := "macTags", unfollowed := true, recurses := true, plainKeys := false, apart := false }
def MacTagsSaid : Prop := macTagsRow.holds Try.pinned (OpenSpec.ofChange macTagsSpec)

/-- ITS FALSE NEIGHBOUR: 'it returns false'. Refute it at one input. -/
def macTagsWrong : ChangeSpec := { name := "macTags", fn := fun _ => fun
  | [d1, d2, d3] => { results := [.lit (.bool false)], args := [d1, d2, d3] }
  | _ => none }
def MacTagsWrongFalsely : Prop := macTagsRow.holds Try.pinned (OpenSpec.ofChange macTagsWrong)

/-- 'sacristanlaw03.MacChecks': WHATEVER THE INPUT: true; the input reads as it did. -/
def macChecksSpec : ChangeSpec := { name := "macChecks", fn := fun _ => fun
  | [d1, d2, d3, d4] => { results := [.lit (.bool true)], args := [d1, d2, d3, d4] }
  | _ => none }
def macChecksRow : OpenClaim := { program := "ytapojpjmeadabaa", sum := "f83b8bfa803e7beef7804ba4277da6d34bd100af107304f254f32d0a25954e81", func := "sacristan/sacristanlaw03.MacChecks", spec := "macChecks", unfollowed := true, recurses := true, plainKeys := false, apart := false }
def MacChecksSaid : Prop := macChecksRow.holds Try.pinned (OpenSpec.ofChange macChecksSpec)

/-- ITS FALSE NEIGHBOUR: 'it returns false'. Refute it at one input. -/
def macChecksWrong : ChangeSpec := { name := "macChecks", fn := fun _ => fun
  | [d1, d2, d3, d4] => { results := [.lit (.bool false)], args := [d1, d2, d3, d4] }
  | _ => none }
def MacChecksWrongFalsely : Prop := macChecksRow.holds Try.pinned (OpenSpec.ofChange macChecksWrong)

/-- 'sacristanlaw10.AuditSame': WHATEVER THE INPUT: true; the input reads as it did. -/
def auditSameSpec : ChangeSpec := { name := "auditSame", fn := fun _ => fun
  | [d1, d2, d3, d4] => { results := [.lit (.bool true)], args := [d1, d2, d3, d4] }
  | _ => none }
def auditSameRow : OpenClaim := { program := "ytapojpjmeadabaa", sum := "f83b8bfa803e7beef7804ba4277da6d34bd100af107304f254f32d0a25954e81", func := "sacristan/sacristanlaw10.AuditSame", spec := "auditSame", inPlace := ["math/bits.Add64"], unfollowed := true, recurses := true, plainKeys := false, apart := false }
def AuditSameSaid : Prop := auditSameRow.holds Try.pinned (OpenSpec.ofChange auditSameSpec)

/-- ITS FALSE NEIGHBOUR: 'it returns false'. Refute it at one input. -/
def auditSameWrong : ChangeSpec := { name := "auditSame", fn := fun _ => fun
  | [d1, d2, d3, d4] => { results := [.lit (.bool false)], args := [d1, d2, d3, d4] }
  | _ => none }
def AuditSameWrongFalsely : Prop := auditSameRow.holds Try.pinned (OpenSpec.ofChange auditSameWrong)

/-- 'sacristanlaw03.MacKeys': WHATEVER THE INPUT: true; the input reads as it did. -/
def macKeysSpec : ChangeSpec := { name := "macKeys", fn := fun _ => fun
  | [d1, d2, d3, d4] => { results := [.lit (.bool true)], args := [d1, d2, d3, d4] }
  | _ => none }
def macKeysRow : OpenClaim := { program := "ytapojpjmeadabaa", sum := "f83b8bfa803e7beef7804ba4277da6d34bd100af107304f254f32d0a25954e81", func := "sacristan/sacristanlaw03.MacKeys", spec := "macKeys", unfollowed := true, recurses := true, plainKeys := false, apart := false }
def MacKeysSaid : Prop := macKeysRow.holds Try.pinned (OpenSpec.ofChange macKeysSpec)

/-- ITS FALSE NEIGHBOUR: 'it returns false'. Refute it at one input. -/
def macKeysWrong : ChangeSpec := { name := "macKeys", fn := fun _ => fun
  | [d1, d2, d3, d4] => { results := [.lit (.bool false)], args := [d1, d2, d3, d4] }
  | _ => none }
def MacKeysWrongFalsely : Prop := macKeysRow.holds Try.pinned (OpenSpec.ofChange macKeysWrong)

/-- 'sacristanlaw03.MacDerives': WHATEVER THE INPUT: true; the input reads as it did. -/
def macDerivesSpec : ChangeSpec := { name := "macDerives", fn := fun _ => fun
  | [d1, d2, d3] => { results := [.lit (.bool true)], args := [d1, d2, d3] }
  | _ => none }
def macDerivesRow : OpenClaim := { program := "ytapojpjmeadabaa", sum := "f83b8bfa803e7beef7804ba4277da6d34bd100af107304f254f32d0a25954e81", func := "sacristan/sacristanlaw03.MacDerives", spec := "macDerives", unfollowed := true, recurses := true, plainKeys := false, apart := false }
def MacDerivesSaid : Prop := macDerivesRow.holds Try.pinned (OpenSpec.ofChange macDerivesSpec)

/-- ITS FALSE NEIGHBOUR: 'it returns false'. Refute it at one input. -/
def macDerivesWrong : ChangeSpec := { name := "macDerives", fn := fun _ => fun
  | [d1, d2, d3] => { results := [.lit (.bool false)], args := [d1, d2, d3] }
  | _ => none }
def MacDerivesWrongFalsely : Prop := macDerivesRow.holds Try.pinned (OpenSpec.ofChange macDerivesWrong)

/-- 'sacristanlaw03.MacBegins': WHATEVER THE INPUT: true; the input reads as it did. -/
def macBeginsSpec : ChangeSpec := { name := "macBegins", fn := fun _ => fun
  | [d1, d2, d3, d4] => { results := [.lit (.bool true)], args := [d1, d2, d3, d4] }
  | _ => none }
def macBeginsRow : OpenClaim := { program := "ytapojpjmeadabaa", sum := "f83b8bfa803e7beef7804ba4277da6d34bd100af107304f254f32d0a25954e81", func := "sacristan/sacristanlaw03.MacBegins", spec := "macBegins", unfollowed := true, recurses := true, plainKeys := false, apart := false }
def MacBeginsSaid : Prop := macBeginsRow.holds Try.pinned (OpenSpec.ofChange macBeginsSpec)

/-- ITS FALSE NEIGHBOUR: 'it returns false'. Refute it at one input. -/
def macBeginsWrong : ChangeSpec := { name := "macBegins", fn := fun _ => fun
  | [d1, d2, d3, d4] => { results := [.lit (.bool false)], args := [d1, d2, d3, d4] }
  | _ => none }
def MacBeginsWrongFalsely : Prop := macBeginsRow.holds Try.pinned (OpenSpec.ofChange macBeginsWrong)

/-- 'sacristanlaw03.MacParts': WHATEVER THE INPUT: true; the input reads as it did. -/
def macPartsSpec : ChangeSpec := { name := "macParts", fn := fun _ => fun
  | [d1, d2, d3] => { results := [.lit (.bool true)], args := [d1, d2, d3] }
  | _ => none }
def macPartsRow : OpenClaim := { program := "ytapojpjmeadabaa", sum := "f83b8bfa803e7beef7804ba4277da6d34bd100af107304f254f32d0a25954e81", func := "sacristan/sacristanlaw03.MacParts", spec := "macParts", unfollowed := true, recurses := true, plainKeys := false, apart := false }
def MacPartsSaid : Prop := macPartsRow.holds Try.pinned (OpenSpec.ofChange macPartsSpec)

/-- ITS FALSE NEIGHBOUR: 'it returns false'. Refute it at one input. -/
def macPartsWrong : ChangeSpec := { name := "macParts", fn := fun _ => fun
  | [d1, d2, d3] => { results := [.lit (.bool false)], args := [d1, d2, d3] }
  | _ => none }
def MacPartsWrongFalsely : Prop := macPartsRow.holds Try.pinned (OpenSpec.ofChange macPartsWrong)

/-- 'sacristanlaw05.SumOfs': WHATEVER THE INPUT: true; the input reads as it did. -/
def sumOfsSpec : ChangeSpec := { name := "sumOfs", fn := fun _ => fun
  | [d1, d2, d3, d4] => { results := [.lit (.bool true)], args := [d1, d2, d3, d4] }
  | _ => none }
def sumOfsRow : OpenClaim := { program := "ytapojpjmeadabaa", sum := "f83b8bfa803e7beef7804ba4277da6d34bd100af107304f254f32d0a25954e81", func := "sacristan/sacristanlaw05.SumOfs", spec := "sumOfs", inPlace := ["math/bits.Add64", "math/bits.Sub64"], unfollowed := true, recurses := true, plainKeys := false, apart := false }
def SumOfsSaid : Prop := sumOfsRow.holds Try.pinned (OpenSpec.ofChange sumOfsSpec)

/-- ITS FALSE NEIGHBOUR: 'it returns false'. Refute it at one input. -/
def sumOfsWrong : ChangeSpec := { name := "sumOfs", fn := fun _ => fun
  | [d1, d2, d3, d4] => { results := [.lit (.bool false)], args := [d1, d2, d3, d4] }
  | _ => none }
def SumOfsWrongFalsely : Prop := sumOfsRow.holds Try.pinned (OpenSpec.ofChange sumOfsWrong)

/-- 'sacristanlaw05.SumOrders': WHATEVER THE INPUT: true; the input reads as it did. -/
def sumOrdersSpec : ChangeSpec := { name := "sumOrders", fn := fun _ => fun
  | [d1, d2, d3] => { results := [.lit (.bool true)], args := [d1, d2, d3] }
  | _ => none }
def sumOrdersRow : OpenClaim := { program := "ytapojpjmeadabaa", sum := "f83b8bfa803e7beef7804ba4277da6d34bd100af107304f254f32d0a25954e81", func := "sacristan/sacristanlaw05.SumOrders", spec := "sumOrders", inPlace := ["math/bits.Add64", "math/bits.Sub64"], unfollowed := true, recurses := true, plainKeys := false, apart := false }
def SumOrdersSaid : Prop := sumOrdersRow.holds Try.pinned (OpenSpec.ofChange sumOrdersSpec)

/-- ITS FALSE NEIGHBOUR: 'it returns false'. Refute it at one input. -/
def sumOrdersWrong : ChangeSpec := { name := "sumOrders", fn := fun _ => fun
  | [d1, d2, d3] => { results := [.lit (.bool false)], args := [d1, d2, d3] }
  | _ => none }
def SumOrdersWrongFalsely : Prop := sumOrdersRow.holds Try.pinned (OpenSpec.ofChange sumOrdersWrong)

/-- 'sacristanlaw05.SumItems': WHATEVER THE INPUT: true; the input reads as it did. -/
def sumItemsSpec : ChangeSpec := { name := "sumItems", fn := fun _ => fun
  | [d1, d2, d3] => { results := [.lit (.bool true)], args := [d1, d2, d3] }
  | _ => none }
def sumItemsRow : OpenClaim := { program := "ytapojpjmeadabaa", sum := "f83b8bfa803e7beef7804ba4277da6d34bd100af107304f254f32d0a25954e81", func := "sacristan/sacristanlaw05.SumItems", spec := "sumItems", inPlace := ["math/bits.Add64", "math/bits.Sub64"], unfollowed := true, recurses := true, plainKeys := false, apart := false }
def SumItemsSaid : Prop := sumItemsRow.holds Try.pinned (OpenSpec.ofChange sumItemsSpec)

/-- ITS FALSE NEIGHBOUR: 'it returns false'. Refute it at one input. -/
def sumItemsWrong : ChangeSpec := { name := "sumItems", fn := fun _ => fun
  | [d1, d2, d3] => { results := [.lit (.bool false)], args := [d1, d2, d3] }
  | _ => none }
def SumItemsWrongFalsely : Prop := sumItemsRow.holds Try.pinned (OpenSpec.ofChange sumItemsWrong)

/-- 'sacristanlaw05.SumKeys': WHATEVER THE INPUT: true; the input reads as it did. -/
def sumKeysSpec : ChangeSpec := { name := "sumKeys", fn := fun _ => fun
  | [d1, d2, d3, d4] => { results := [.lit (.bool true)], args := [d1, d2, d3, d4] }
  | _ => none }
def sumKeysRow : OpenClaim := { program := "ytapojpjmeadabaa", sum := "f83b8bfa803e7beef7804ba4277da6d34bd100af107304f254f32d0a25954e81", func := "sacristan/sacristanlaw05.SumKeys", spec := "sumKeys", inPlace := ["math/bits.Add64", "math/bits.Sub64"], unfollowed := true, recurses := true, plainKeys := false, apart := false }
def SumKeysSaid : Prop := sumKeysRow.holds Try.pinned (OpenSpec.ofChange sumKeysSpec)

/-- ITS FALSE NEIGHBOUR: 'it returns false'. Refute it at one input. -/
def sumKeysWrong : ChangeSpec := { name := "sumKeys", fn := fun _ => fun
  | [d1, d2, d3, d4] => { results := [.lit (.bool false)], args := [d1, d2, d3, d4] }
  | _ => none }
def SumKeysWrongFalsely : Prop := sumKeysRow.holds Try.pinned (OpenSpec.ofChange sumKeysWrong)

/-- 'sacristanlaw08.SealLong': WHATEVER THE INPUT: true; the input reads as it did. -/
def sealLongSpec : ChangeSpec := { name := "sealLong", fn := fun _ => fun
  | [d1, d2, d3] => { results := [.lit (.bool true)], args := [d1, d2, d3] }
  | _ => none }
def sealLongRow : OpenClaim := { program := "ytapojpjmeadabaa", sum := "f83b8bfa803e7beef7804ba4277da6d34bd100af107304f254f32d0a25954e81", func := "sacristan/sacristanlaw08.SealLong", spec := "sealLong", unfollowed := true, recurses := true, plainKeys := false, apart := false }
def SealLongSaid : Prop := sealLongRow.holds Try.pinned (OpenSpec.ofChange sealLongSpec)

/-- ITS FALSE NEIGHBOUR: 'it returns false'. Refute it at one input. -/
def sealLongWrong : ChangeSpec := { name := "sealLong", fn := fun _ => fun
  | [d1, d2, d3] => { results := [.lit (.bool false)], args := [d1, d2, d3] }
  | _ => none }
def SealLongWrongFalsely : Prop := sealLongRow.holds Try.pinned (OpenSpec.ofChange sealLongWrong)

/-- 'sacristanlaw08.SealBack': WHATEVER THE INPUT: true; the input reads as it did. -/
def sealBackSpec : ChangeSpec := { name := "sealBack", fn := fun _ => fun
  | [d1, d2, d3, d4, d5] => { results := [.lit (.bool true)], args := [d1, d2, d3, d4, d5] }
  | _ => none }
def sealBackRow : OpenClaim := { program := "ytapojpjmeadabaa", sum := "f83b8bfa803e7beef7804ba4277da6d34bd100af107304f254f32d0a25954e81", func := "sacristan/sacristanlaw08.SealBack", spec := "sealBack", unfollowed := true, recurses := true, plainKeys := false, apart := false }
def SealBackSaid : Prop := sealBackRow.holds Try.pinned (OpenSpec.ofChange sealBackSpec)

/-- ITS FALSE NEIGHBOUR: 'it returns false'. Refute it at one input. -/
def sealBackWrong : ChangeSpec := { name := "sealBack", fn := fun _ => fun
  | [d1, d2, d3, d4, d5] => { results := [.lit (.bool false)], args := [d1, d2, d3, d4, d5] }
  | _ => none }
def SealBackWrongFalsely : Prop := sealBackRow.holds Try.pinned (OpenSpec.ofChange sealBackWrong)

/-- 'sacristanlaw08.SealDecodes': WHATEVER THE INPUT: true; the input reads as it did. -/
def sealDecodesSpec : ChangeSpec := { name := "sealDecodes", fn := fun _ => fun
  | [d1, d2, d3, d4] => { results := [.lit (.bool true)], args := [d1, d2, d3, d4] }
  | _ => none }
def sealDecodesRow : OpenClaim := { program := "ytapojpjmeadabaa", sum := "f83b8bfa803e7beef7804ba4277da6d34bd100af107304f254f32d0a25954e81", func := "sacristan/sacristanlaw08.SealDecodes", spec := "sealDecodes", unfollowed := true, recurses := true, plainKeys := false, apart := false }
def SealDecodesSaid : Prop := sealDecodesRow.holds Try.pinned (OpenSpec.ofChange sealDecodesSpec)

/-- ITS FALSE NEIGHBOUR: 'it returns false'. Refute it at one input. -/
def sealDecodesWrong : ChangeSpec := { name := "sealDecodes", fn := fun _ => fun
  | [d1, d2, d3, d4] => { results := [.lit (.bool false)], args := [d1, d2, d3, d4] }
  | _ => none }
def SealDecodesWrongFalsely : Prop := sealDecodesRow.holds Try.pinned (OpenSpec.ofChange sealDecodesWrong)

/-- 'sacristanlaw08.SealChooses': WHATEVER THE INPUT: true; the input reads as it did. -/
def sealChoosesSpec : ChangeSpec := { name := "sealChooses", fn := fun _ => fun
  | [d1, d2, d3, d4, d5] => { results := [.lit (.bool true)], args := [d1, d2, d3, d4, d5] }
  | _ => none }
def sealChoosesRow : OpenClaim := { program := "ytapojpjmeadabaa", sum := "f83b8bfa803e7beef7804ba4277da6d34bd100af107304f254f32d0a25954e81", func := "sacristan/sacristanlaw08.SealChooses", spec := "sealChooses", unfollowed := true, recurses := true, plainKeys := false, apart := false }
def SealChoosesSaid : Prop := sealChoosesRow.holds Try.pinned (OpenSpec.ofChange sealChoosesSpec)

/-- ITS FALSE NEIGHBOUR: 'it returns false'. Refute it at one input. -/
def sealChoosesWrong : ChangeSpec := { name := "sealChooses", fn := fun _ => fun
  | [d1, d2, d3, d4, d5] => { results := [.lit (.bool false)], args := [d1, d2, d3, d4, d5] }
  | _ => none }
def SealChoosesWrongFalsely : Prop := sealChoosesRow.holds Try.pinned (OpenSpec.ofChange sealChoosesWrong)

/-- 'sacristanlaw08.SealOrder': WHATEVER THE INPUT: true; the input reads as it did. -/
def sealOrderSpec : ChangeSpec := { name := "sealOrder", fn := fun _ => fun
  | [d1, d2, d3, d4, d5] => { results := [.lit (.bool true)], args := [d1, d2, d3, d4, d5] }
  | _ => none }
def sealOrderRow : OpenClaim := { program := "ytapojpjmeadabaa", sum := "f83b8bfa803e7beef7804ba4277da6d34bd100af107304f254f32d0a25954e81", func := "sacristan/sacristanlaw08.SealOrder", spec := "sealOrder", unfollowed := true, recurses := true, plainKeys := false, apart := false }
def SealOrderSaid : Prop := sealOrderRow.holds Try.pinned (OpenSpec.ofChange sealOrderSpec)

/-- ITS FALSE NEIGHBOUR: 'it returns false'. Refute it at one input. -/
def sealOrderWrong : ChangeSpec := { name := "sealOrder", fn := fun _ => fun
  | [d1, d2, d3, d4, d5] => { results := [.lit (.bool false)], args := [d1, d2, d3, d4, d5] }
  | _ => none }
def SealOrderWrongFalsely : Prop := sealOrderRow.holds Try.pinned (OpenSpec.ofChange sealOrderWrong)

/-- 'sacristanlaw08.SealEncodes': WHATEVER THE INPUT: true; the input reads as it did. -/
def sealEncodesSpec : ChangeSpec := { name := "sealEncodes", fn := fun _ => fun
  | [d1, d2, d3, d4] => { results := [.lit (.bool true)], args := [d1, d2, d3, d4] }
  | _ => none }
def sealEncodesRow : OpenClaim := { program := "ytapojpjmeadabaa", sum := "f83b8bfa803e7beef7804ba4277da6d34bd100af107304f254f32d0a25954e81", func := "sacristan/sacristanlaw08.SealEncodes", spec := "sealEncodes", unfollowed := true, recurses := true, plainKeys := false, apart := false }
def SealEncodesSaid : Prop := sealEncodesRow.holds Try.pinned (OpenSpec.ofChange sealEncodesSpec)

/-- ITS FALSE NEIGHBOUR: 'it returns false'. Refute it at one input. -/
def sealEncodesWrong : ChangeSpec := { name := "sealEncodes", fn := fun _ => fun
  | [d1, d2, d3, d4] => { results := [.lit (.bool false)], args := [d1, d2, d3, d4] }
  | _ => none }
def SealEncodesWrongFalsely : Prop := sealEncodesRow.holds Try.pinned (OpenSpec.ofChange sealEncodesWrong)

/-- 'sacristanlaw08.SealFlips': WHATEVER THE INPUT: true; the input reads as it did. -/
def sealFlipsSpec : ChangeSpec := { name := "sealFlips", fn := fun _ => fun
  | [d1, d2, d3] => { results := [.lit (.bool true)], args := [d1, d2, d3] }
  | _ => none }
def sealFlipsRow : OpenClaim := { program := "ytapojpjmeadabaa", sum := "f83b8bfa803e7beef7804ba4277da6d34bd100af107304f254f32d0a25954e81", func := "sacristan/sacristanlaw08.SealFlips", spec := "sealFlips", unfollowed := true, recurses := true, plainKeys := false, apart := false }
def SealFlipsSaid : Prop := sealFlipsRow.holds Try.pinned (OpenSpec.ofChange sealFlipsSpec)

/-- ITS FALSE NEIGHBOUR: 'it returns false'. Refute it at one input. -/
def sealFlipsWrong : ChangeSpec := { name := "sealFlips", fn := fun _ => fun
  | [d1, d2, d3] => { results := [.lit (.bool false)], args := [d1, d2, d3] }
  | _ => none }
def SealFlipsWrongFalsely : Prop := sealFlipsRow.holds Try.pinned (OpenSpec.ofChange sealFlipsWrong)

/- THE SECOND FORM. 'bulk': how many values and letters a reading holds, each counted each time it is reached (what is shared counts as often as it is met; a slice's spare places count too). A statement '..UptoSaid' is the law's where the arguments, and the package variables that the reading takes, are together of bulk at most 1048576: NARROWER than '..Said'. Prove '..Said' where nothing that the law and all that it calls make is longer than what came in: it says more and counts as full. Else prove '..UptoSaid'. A law counts once. -/
mutual
def uptoBulk {H : Type} : DataW H → Nat
  | .lit (.string bytes) => bytes.length + 1
  | .lit _ => 1
  | .nil => 1
  | .ptr d => uptoBulk d + 1
  | .slice elems spare => uptoBulkAll elems + uptoBulkAll spare + 1
  | .agg parts => uptoBulkAll parts + 1
  | .iface _ d => uptoBulk d + 1
  | .map entries => uptoBulkEntries entries + 1
  | .held _ => 1
def uptoBulkAll {H : Type} : List (DataW H) → Nat
  | [] => 0
  | d :: r => uptoBulk d + uptoBulkAll r
def uptoBulkEntries {H : Type} : List (Lit × DataW H) → Nat
  | [] => 0
  | x :: r => uptoBulkEntry x + uptoBulkEntries r
def uptoBulkEntry {H : Type} : Lit × DataW H → Nat
  | (.string bytes, d) => bytes.length + uptoBulk d + 1
  | (_, d) => uptoBulk d + 1
 end
def uptoSmall : (H : Type) → List (DataW H) → Bool := fun _ ds => decide (uptoBulkAll ds ≤ 1048576)
def OpenSpec.upto (s : _root_.Go.ChangeSpec) : _root_.Go.OpenSpec := { _root_.Go.OpenSpec.ofChange s with cond := some uptoSmall }

/-- 'sacristanlaw02.ShaSums', WHERE WHAT IT READS IS OF BULK AT MOST 1048576: true; the input reads as it did. -/
def shaSumsUptoRow : OpenClaim := { program := "ytapojpjmeadabaa", sum := "f83b8bfa803e7beef7804ba4277da6d34bd100af107304f254f32d0a25954e81", func := "sacristan/sacristanlaw02.ShaSums", spec := "shaSums", plainKeys := false, apart := false, narrowed := true }
def ShaSumsUptoSaid : Prop := shaSumsUptoRow.holds Try.pinned (OpenSpec.upto shaSumsSpec)

/-- 'sacristanlaw02.ShaSteps', WHERE WHAT IT READS IS OF BULK AT MOST 1048576: true; the input reads as it did. -/
def shaStepsUptoRow : OpenClaim := { program := "ytapojpjmeadabaa", sum := "f83b8bfa803e7beef7804ba4277da6d34bd100af107304f254f32d0a25954e81", func := "sacristan/sacristanlaw02.ShaSteps", spec := "shaSteps", plainKeys := false, apart := false, narrowed := true }
def ShaStepsUptoSaid : Prop := shaStepsUptoRow.holds Try.pinned (OpenSpec.upto shaStepsSpec)

/-- 'sacristanlaw02.ShaCopies', WHERE WHAT IT READS IS OF BULK AT MOST 1048576: true; the input reads as it did. -/
def shaCopiesUptoRow : OpenClaim := { program := "ytapojpjmeadabaa", sum := "f83b8bfa803e7beef7804ba4277da6d34bd100af107304f254f32d0a25954e81", func := "sacristan/sacristanlaw02.ShaCopies", spec := "shaCopies", plainKeys := false, apart := false, narrowed := true }
def ShaCopiesUptoSaid : Prop := shaCopiesUptoRow.holds Try.pinned (OpenSpec.upto shaCopiesSpec)

/-- 'sacristanlaw02.ShaPieces', WHERE WHAT IT READS IS OF BULK AT MOST 1048576: true; the input reads as it did. -/
def shaPiecesUptoRow : OpenClaim := { program := "ytapojpjmeadabaa", sum := "f83b8bfa803e7beef7804ba4277da6d34bd100af107304f254f32d0a25954e81", func := "sacristan/sacristanlaw02.ShaPieces", spec := "shaPieces", plainKeys := false, apart := false, narrowed := true }
def ShaPiecesUptoSaid : Prop := shaPiecesUptoRow.holds Try.pinned (OpenSpec.upto shaPiecesSpec)

/-- 'sacristanlaw02.ShaOne', WHERE WHAT IT READS IS OF BULK AT MOST 1048576: true; the input reads as it did. -/
def shaOneUptoRow : OpenClaim := { program := "ytapojpjmeadabaa", sum := "f83b8bfa803e7beef7804ba4277da6d34bd100af107304f254f32d0a25954e81", func := "sacristan/sacristanlaw02.ShaOne", spec := "shaOne", plainKeys := false, apart := false, narrowed := true }
def ShaOneUptoSaid : Prop := shaOneUptoRow.holds Try.pinned (OpenSpec.upto shaOneSpec)

/-- 'sacristanlaw02.ShaPads', WHERE WHAT IT READS IS OF BULK AT MOST 1048576: true; the input reads as it did. -/
def shaPadsUptoRow : OpenClaim := { program := "ytapojpjmeadabaa", sum := "f83b8bfa803e7beef7804ba4277da6d34bd100af107304f254f32d0a25954e81", func := "sacristan/sacristanlaw02.ShaPads", spec := "shaPads", plainKeys := false, apart := false, narrowed := true }
def ShaPadsUptoSaid : Prop := shaPadsUptoRow.holds Try.pinned (OpenSpec.upto shaPadsSpec)

/-- 'sacristanlaw10.AuditHeaps', WHERE WHAT IT READS IS OF BULK AT MOST 1048576: true; the input reads as it did. -/
def auditHeapsUptoRow : OpenClaim := { program := "ytapojpjmeadabaa", sum := "f83b8bfa803e7beef7804ba4277da6d34bd100af107304f254f32d0a25954e81", func := "sacristan/sacristanlaw10.AuditHeaps", spec := "auditHeaps", inPlace := ["math/bits.Add64"], unfollowed := true, recurses := true, plainKeys := false, apart := false, narrowed := true }
def AuditHeapsUptoSaid : Prop := auditHeapsUptoRow.holds Try.pinned (OpenSpec.upto auditHeapsSpec)

/-- 'sacristanlaw03.MacTags', WHERE WHAT IT READS IS OF BULK AT MOST 1048576: true; the input reads as it did. -/
def macTagsUptoRow : OpenClaim := { program := "ytapojpjmeadabaa", sum := "f83b8bfa803e7beef7804ba4277da6d34bd100af107304f254f32d0a25954e81", func := "sacristan/sacristanlaw03.MacTags", spec := "macTags", unfollowed := true, recurses := true, plainKeys := false, apart := false, narrowed := true }
def MacTagsUptoSaid : Prop := macTagsUptoRow.holds Try.pinned (OpenSpec.upto macTagsSpec)

/-- 'sacristanlaw03.MacChecks', WHERE WHAT IT READS IS OF BULK AT MOST 1048576: true; the input reads as it did. -/
def macChecksUptoRow : OpenClaim := { program := "ytapojpjmeadabaa", sum := "f83b8bfa803e7beef7804ba4277da6d34bd100af107304f254f32d0a25954e81", func := "sacristan/sacristanlaw03.MacChecks", spec := "macChecks", unfollowed := true, recurses := true, plainKeys := false, apart := false, narrowed := true }
def MacChecksUptoSaid : Prop := macChecksUptoRow.holds Try.pinned (OpenSpec.upto macChecksSpec)

/-- 'sacristanlaw10.AuditSame', WHERE WHAT IT READS IS OF BULK AT MOST 1048576: true; the input reads as it did. -/
def auditSameUptoRow : OpenClaim := { program := "ytapojpjmeadabaa", sum := "f83b8bfa803e7beef7804ba4277da6d34bd100af107304f254f32d0a25954e81", func := "sacristan/sacristanlaw10.AuditSame", spec := "auditSame", inPlace := ["math/bits.Add64"], unfollowed := true, recurses := true, plainKeys := false, apart := false, narrowed := true }
def AuditSameUptoSaid : Prop := auditSameUptoRow.holds Try.pinned (OpenSpec.upto auditSameSpec)

/-- 'sacristanlaw03.MacKeys', WHERE WHAT IT READS IS OF BULK AT MOST 1048576: true; the input reads as it did. -/
def macKeysUptoRow : OpenClaim := { program := "ytapojpjmeadabaa", sum := "f83b8bfa803e7beef7804ba4277da6d34bd100af107304f254f32d0a25954e81", func := "sacristan/sacristanlaw03.MacKeys", spec := "macKeys", unfollowed := true, recurses := true, plainKeys := false, apart := false, narrowed := true }
def MacKeysUptoSaid : Prop := macKeysUptoRow.holds Try.pinned (OpenSpec.upto macKeysSpec)

/-- 'sacristanlaw03.MacDerives', WHERE WHAT IT READS IS OF BULK AT MOST 1048576: true; the input reads as it did. -/
def macDerivesUptoRow : OpenClaim := { program := "ytapojpjmeadabaa", sum := "f83b8bfa803e7beef7804ba4277da6d34bd100af107304f254f32d0a25954e81", func := "sacristan/sacristanlaw03.MacDerives", spec := "macDerives", unfollowed := true, recurses := true, plainKeys := false, apart := false, narrowed := true }
def MacDerivesUptoSaid : Prop := macDerivesUptoRow.holds Try.pinned (OpenSpec.upto macDerivesSpec)

/-- 'sacristanlaw03.MacBegins', WHERE WHAT IT READS IS OF BULK AT MOST 1048576: true; the input reads as it did. -/
def macBeginsUptoRow : OpenClaim := { program := "ytapojpjmeadabaa", sum := "f83b8bfa803e7beef7804ba4277da6d34bd100af107304f254f32d0a25954e81", func := "sacristan/sacristanlaw03.MacBegins", spec := "macBegins", unfollowed := true, recurses := true, plainKeys := false, apart := false, narrowed := true }
def MacBeginsUptoSaid : Prop := macBeginsUptoRow.holds Try.pinned (OpenSpec.upto macBeginsSpec)

/-- 'sacristanlaw03.MacParts', WHERE WHAT IT READS IS OF BULK AT MOST 1048576: true; the input reads as it did. -/
def macPartsUptoRow : OpenClaim := { program := "ytapojpjmeadabaa", sum := "f83b8bfa803e7beef7804ba4277da6d34bd100af107304f254f32d0a25954e81", func := "sacristan/sacristanlaw03.MacParts", spec := "macParts", unfollowed := true, recurses := true, plainKeys := false, apart := false, narrowed := true }
def MacPartsUptoSaid : Prop := macPartsUptoRow.holds Try.pinned (OpenSpec.upto macPartsSpec)

/-- 'sacristanlaw05.SumOfs', WHERE WHAT IT READS IS OF BULK AT MOST 1048576: true; the input reads as it did. -/
def sumOfsUptoRow : OpenClaim := { program := "ytapojpjmeadabaa", sum := "f83b8bfa803e7beef7804ba4277da6d34bd100af107304f254f32d0a25954e81", func := "sacristan/sacristanlaw05.SumOfs", spec := "sumOfs", inPlace := ["math/bits.Add64", "math/bits.Sub64"], unfollowed := true, recurses := true, plainKeys := false, apart := false, narrowed := true }
def SumOfsUptoSaid : Prop := sumOfsUptoRow.holds Try.pinned (OpenSpec.upto sumOfsSpec)

/-- 'sacristanlaw05.SumOrders', WHERE WHAT IT READS IS OF BULK AT MOST 1048576: true; the input reads as it did. -/
def sumOrdersUptoRow : OpenClaim := { program := "ytapojpjmeadabaa", sum := "f83b8bfa803e7beef7804ba4277da6d34bd100af107304f254f32d0a25954e81", func := "sacristan/sacristanlaw05.SumOrders", spec := "sumOrders", inPlace := ["math/bits.Add64", "math/bits.Sub64"], unfollowed := true, recurses := true, plainKeys := false, apart := false, narrowed := true }
def SumOrdersUptoSaid : Prop := sumOrdersUptoRow.holds Try.pinned (OpenSpec.upto sumOrdersSpec)

/-- 'sacristanlaw05.SumItems', WHERE WHAT IT READS IS OF BULK AT MOST 1048576: true; the input reads as it did. -/
def sumItemsUptoRow : OpenClaim := { program := "ytapojpjmeadabaa", sum := "f83b8bfa803e7beef7804ba4277da6d34bd100af107304f254f32d0a25954e81", func := "sacristan/sacristanlaw05.SumItems", spec := "sumItems", inPlace := ["math/bits.Add64", "math/bits.Sub64"], unfollowed := true, recurses := true, plainKeys := false, apart := false, narrowed := true }
def SumItemsUptoSaid : Prop := sumItemsUptoRow.holds Try.pinned (OpenSpec.upto sumItemsSpec)

/-- 'sacristanlaw05.SumKeys', WHERE WHAT IT READS IS OF BULK AT MOST 1048576: true; the input reads as it did. -/
def sumKeysUptoRow : OpenClaim := { program := "ytapojpjmeadabaa", sum := "f83b8bfa803e7beef7804ba4277da6d34bd100af107304f254f32d0a25954e81", func := "sacristan/sacristanlaw05.SumKeys", spec := "sumKeys", inPlace := ["math/bits.Add64", "math/bits.Sub64"], unfollowed := true, recurses := true, plainKeys := false, apart := false, narrowed := true }
def SumKeysUptoSaid : Prop := sumKeysUptoRow.holds Try.pinned (OpenSpec.upto sumKeysSpec)

/-- 'sacristanlaw08.SealLong', WHERE WHAT IT READS IS OF BULK AT MOST 1048576: true; the input reads as it did. -/
def sealLongUptoRow : OpenClaim := { program := "ytapojpjmeadabaa", sum := "f83b8bfa803e7beef7804ba4277da6d34bd100af107304f254f32d0a25954e81", func := "sacristan/sacristanlaw08.SealLong", spec := "sealLong", unfollowed := true, recurses := true, plainKeys := false, apart := false, narrowed := true }
def SealLongUptoSaid : Prop := sealLongUptoRow.holds Try.pinned (OpenSpec.upto sealLongSpec)

/-- 'sacristanlaw08.SealBack', WHERE WHAT IT READS IS OF BULK AT MOST 1048576: true; the input reads as it did. -/
def sealBackUptoRow : OpenClaim := { program := "ytapojpjmeadabaa", sum := "f83b8bfa803e7beef7804ba4277da6d34bd100af107304f254f32d0a25954e81", func := "sacristan/sacristanlaw08.SealBack", spec := "sealBack", unfollowed := true, recurses := true, plainKeys := false, apart := false, narrowed := true }
def SealBackUptoSaid : Prop := sealBackUptoRow.holds Try.pinned (OpenSpec.upto sealBackSpec)

/-- 'sacristanlaw08.SealDecodes', WHERE WHAT IT READS IS OF BULK AT MOST 1048576: true; the input reads as it did. -/
def sealDecodesUptoRow : OpenClaim := { program := "ytapojpjmeadabaa", sum := "f83b8bfa803e7beef7804ba4277da6d34bd100af107304f254f32d0a25954e81", func := "sacristan/sacristanlaw08.SealDecodes", spec := "sealDecodes", unfollowed := true, recurses := true, plainKeys := false, apart := false, narrowed := true }
def SealDecodesUptoSaid : Prop := sealDecodesUptoRow.holds Try.pinned (OpenSpec.upto sealDecodesSpec)

/-- 'sacristanlaw08.SealChooses', WHERE WHAT IT READS IS OF BULK AT MOST 1048576: true; the input reads as it did. -/
def sealChoosesUptoRow : OpenClaim := { program := "ytapojpjmeadabaa", sum := "f83b8bfa803e7beef7804ba4277da6d34bd100af107304f254f32d0a25954e81", func := "sacristan/sacristanlaw08.SealChooses", spec := "sealChooses", unfollowed := true, recurses := true, plainKeys := false, apart := false, narrowed := true }
def SealChoosesUptoSaid : Prop := sealChoosesUptoRow.holds Try.pinned (OpenSpec.upto sealChoosesSpec)

/-- 'sacristanlaw08.SealOrder', WHERE WHAT IT READS IS OF BULK AT MOST 1048576: true; the input reads as it did. -/
def sealOrderUptoRow : OpenClaim := { program := "ytapojpjmeadabaa", sum := "f83b8bfa803e7beef7804ba4277da6d34bd100af107304f254f32d0a25954e81", func := "sacristan/sacristanlaw08.SealOrder", spec := "sealOrder", unfollowed := true, recurses := true, plainKeys := false, apart := false, narrowed := true }
def SealOrderUptoSaid : Prop := sealOrderUptoRow.holds Try.pinned (OpenSpec.upto sealOrderSpec)

/-- 'sacristanlaw08.SealEncodes', WHERE WHAT IT READS IS OF BULK AT MOST 1048576: true; the input reads as it did. -/
def sealEncodesUptoRow : OpenClaim := { program := "ytapojpjmeadabaa", sum := "f83b8bfa803e7beef7804ba4277da6d34bd100af107304f254f32d0a25954e81", func := "sacristan/sacristanlaw08.SealEncodes", spec := "sealEncodes", unfollowed := true, recurses := true, plainKeys := false, apart := false, narrowed := true }
def SealEncodesUptoSaid : Prop := sealEncodesUptoRow.holds Try.pinned (OpenSpec.upto sealEncodesSpec)

/-- 'sacristanlaw08.SealFlips', WHERE WHAT IT READS IS OF BULK AT MOST 1048576: true; the input reads as it did. -/
def sealFlipsUptoRow : OpenClaim := { program := "ytapojpjmeadabaa", sum := "f83b8bfa803e7beef7804ba4277da6d34bd100af107304f254f32d0a25954e81", func := "sacristan/sacristanlaw08.SealFlips", spec := "sealFlips", unfollowed := true, recurses := true, plainKeys := false, apart := false, narrowed := true }
def SealFlipsUptoSaid : Prop := sealFlipsUptoRow.holds Try.pinned (OpenSpec.upto sealFlipsSpec)

end Rows
end Go.Proofs.Ytapojpjmeadabaa

/- One more rule of the region theorem: an operation whose value is known by a predicate, which may make memory. -/
import Derived.Test.YtapojpjmeadabaaRegm
namespace Go.Proofs.Ytapojpjmeadabaa
open Go.RowKit
set_option linter.unusedVariables false
set_option linter.unusedSimpArgs false
section
variable {P : Program} {ops : Array Oper} {w0 : World} {QG : List Sl → Prop} {rest : List Oper} {o : Oper} {a : Act} {M : Opq} {ds : List Deferred}
theorem gm_v (hds : a.defers = ds) (hw : Region.wanted o (yielded ops a.tmps) = true) (hsel : notSelB o = true) (hl : noLook ops o M = true) (d : Tmp) (hd : o.dst = some d)
    (R : Value → World → Prop) (hR : ∀ u w w', Ext w w' → R u w → R u w')
    (hr : ∀ x : Grow w0, ∃ v w', (execOp a.eval o).run P (w0.ext x) = .ok (.value v) w' ∧ R v w' ∧ Ext (w0.ext x) w')
    (h : wpG P ops (gCls w0) ds QG rest (envM (a.put (some d) undef) ((d, R) :: M.off (some d)))) : wpG P ops (gCls w0) ds QG (o :: rest) (envM a M) := by
  subst hds
  exact ⟨.p R, gYields_same (notSel hsel) hl hR (fun w hC => by
    unfold gStep
    obtain ⟨x, rfl⟩ := mk_ext hC
    obtain ⟨v, w', h1, h2, h3⟩ := hr x
    rw [if_pos hw, h1]
    exact ⟨h2, h3, hC.trans h3⟩), by rw [hd, envM_put_p]; exact h⟩
end
end Go.Proofs.Ytapojpjmeadabaa

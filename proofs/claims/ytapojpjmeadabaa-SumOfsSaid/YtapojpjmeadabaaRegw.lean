/- Two more rules of the region theorem: a call whose argument is known by a predicate; an operation whose value is known in every grown world. -/
import Derived.Test.YtapojpjmeadabaaEqs
namespace Go.Proofs.Ytapojpjmeadabaa
open Go.RowKit
set_option linter.unusedVariables false
set_option linter.unusedSimpArgs false
section
variable {P : Program} {ops : Array Oper} {w0 : World} {QG : List Sl → Prop} {rest : List Oper} {o : Oper} {a : Act} {M : Opq} {ds : List Deferred}
theorem gm_co (hds : a.defers = ds) (M' : Opq) (hMM : M = M') (t : Tmp) (R : Value → World → Prop) (ht : t ∈ o.looksAt ops) (hlt : t < a.tmps.size) (hM : Opq.at M' t = some R) (f : FuncId) (v : Value)
    (hw : ∀ xs, Region.wanted o (yielded ops (fillM a xs M').tmps) = true)
    (hr : ∀ xs w, (execOp (fillM a xs M').eval o).run P w = .ok (.enter f #[xs t]) w)
    (hc : ∀ (x : Grow w0) (u : Value), R u (w0.ext x) → Calls P f #[u] (w0.ext x) fun e w'' => e = .returned v ∧ Ext (w0.ext x) w'')
    (h : wpG P ops (gCls w0) ds QG rest (envM (a.put o.dst v) (M.off o.dst))) : wpG P ops (gCls w0) ds QG (o :: rest) (envM a M) := by
  subst hMM
  refine gm_op hds (.v v) (Sl.stable_v _ _) (fun xs x hk => ?_) (by rw [envM_put_v]; exact h)
  unfold gStep
  rw [if_pos (hw xs), hr xs]
  exact ⟨Ext.refl _, (hc x _ (hk t ht hlt R hM)).mono fun e w'' ⟨he, hx⟩ => ⟨v, he, rfl, hx, (ext_ext w0 x).trans hx⟩⟩
/-- The frame's opaque slots under their short names. -/
theorem gm_M (M' : Opq) (hMM : M = M') (h : wpG P ops (gCls w0) ds QG rest (envM a M')) : wpG P ops (gCls w0) ds QG rest (envM a M) := by
  subst hMM
  exact h
theorem gm_x (hd : a.defers = ds) (hw : Region.wanted o (yielded ops a.tmps) = true) (hsel : notSelB o = true) (hl : noLook ops o M = true) (v : Value)
    (hr : ∀ x : Grow w0, (execOp a.eval o).run P (w0.ext x) = .ok (.value v) (w0.ext x))
    (h : wpG P ops (gCls w0) ds QG rest (envM (a.put o.dst v) (M.off o.dst))) : wpG P ops (gCls w0) ds QG (o :: rest) (envM a M) := by
  subst hd
  exact ⟨.v v, gYields_same (notSel hsel) hl (Sl.stable_v _ _) (fun w hC => by
    unfold gStep
    obtain ⟨x, rfl⟩ := mk_ext hC
    rw [if_pos hw, hr x]
    exact ⟨rfl, Ext.refl _, hC⟩), by rw [envM_put_v]; exact h⟩
end
/-- A load of a whole digest, run. -/
theorem exec_load27 {o : Oper} {ρ : Operand → Value} (p : Operand) (ho : o.op = .load 27 p) (g : Nat) (hp : ρ p = .pointer (some ⟨g, 0, none⟩)) (l : List UInt8) (hl : l.length = 32) (w : World) (hg : w.heap[g]? = some (.cells (row8 l) 27 (0, 0))) :
    (execOp ρ o).run Try.prog w = .ok (.value (Dig l)) w := by
  unfold execOp
  simp only [ho, hp, Instr.loadAt, Instr.sureAddr, Sem.run_bind, Sem.run_pure, Result.andThen_ok, run_loadVar_row w g 27 27 (row8 l) (0, 0) _ hg Try.underlying27 rfl (size27 l hl)]
end Go.Proofs.Ytapojpjmeadabaa

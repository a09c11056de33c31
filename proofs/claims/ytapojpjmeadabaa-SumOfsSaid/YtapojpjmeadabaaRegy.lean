/- The region theorem's rules once more, for frames whose known-by-a-predicate slots are named once and stay: each rule leaves that list as it is, or puts one slot ahead of it. -/
import Derived.Test.YtapojpjmeadabaaRegw
namespace Go.Proofs.Ytapojpjmeadabaa
open Go.RowKit
set_option linter.unusedVariables false
set_option linter.unusedSimpArgs false

def freshB (o : Oper) (M : Opq) : Bool := match o.dst with | some d => M.all (fun p => p.1 != d) | none => true
def okB (ops : Array Oper) (o : Oper) (M : Opq) : Bool := noLook ops o M && freshB o M
theorem Opq.off_fresh {M : Opq} {o : Oper} (h : freshB o M = true) : M.off o.dst = M := by
  unfold freshB at h
  unfold Opq.off
  cases hd : o.dst with
  | none => rfl
  | some d =>
    rw [hd] at h
    exact List.filter_eq_self.2 fun p hp => List.all_eq_true.1 h p hp
theorem okB_look {ops : Array Oper} {o : Oper} {M : Opq} (h : okB ops o M = true) : noLook ops o M = true := (Bool.and_eq_true_iff.1 h).1
theorem okB_fresh {ops : Array Oper} {o : Oper} {M : Opq} (h : okB ops o M = true) : M.off o.dst = M := Opq.off_fresh (Bool.and_eq_true_iff.1 h).2
theorem okB_nil (ops : Array Oper) (o : Oper) : okB ops o [] = true := by
  unfold okB noLook freshB
  cases o.dst <;> simp

section
variable {P : Program} {ops : Array Oper} {w0 : World} {QG : List Sl → Prop} {rest : List Oper} {o : Oper} {a : Act} {M : Opq} {ds : List Deferred}
/-- Quiet. -/
theorem gq (hd : a.defers = ds) (hw : Region.wanted o (yielded ops a.tmps) = true) (hl : okB ops o M = true) (hp : plainB o = true)
    (h : ∀ K : Act → Prop, (∀ a', wpG P ops (gCls w0) ds QG rest (envM a' M) → K a') → o.quiet P a (fun w' => ∃ x : Grow w0, w' = w0.ext x) K) : wpG P ops (gCls w0) ds QG (o :: rest) (envM a M) :=
  gm_q hd hw (okB_look hl) hp (fun K hK => h K (fun a' hw' => hK a' (by rw [okB_fresh hl]; exact hw')))
theorem gskip (hd : a.defers = ds) (hw : Region.wanted o (yielded ops a.tmps) = false) (hsel : notSelB o = true) (hl : okB ops o M = true)
    (h : wpG P ops (gCls w0) ds QG rest (envM (a.put o.dst undef) M)) : wpG P ops (gCls w0) ds QG (o :: rest) (envM a M) :=
  gm_skip hd hw hsel (okB_look hl) (by rw [okB_fresh hl]; exact h)
/-- A call of one value. -/
theorem gc (hd : a.defers = ds) (hw : Region.wanted o (yielded ops a.tmps) = true) (hsel : notSelB o = true) (hl : okB ops o M = true) (f : FuncId) (args : Array Value)
    (hr : ∀ w, (execOp a.eval o).run P w = .ok (.enter f args) w) (v : Value)
    (hc : ∀ x : Grow w0, Calls P f args (w0.ext x) fun e w'' => e = .returned v ∧ Ext (w0.ext x) w'')
    (h : wpG P ops (gCls w0) ds QG rest (envM (a.put o.dst v) M)) : wpG P ops (gCls w0) ds QG (o :: rest) (envM a M) :=
  gm_c hd hw hsel (okB_look hl) f args hr v hc (by rw [okB_fresh hl]; exact h)
/-- A call of which a predicate is known. -/
theorem gcp (hds : a.defers = ds) (hw : Region.wanted o (yielded ops a.tmps) = true) (hsel : notSelB o = true) (hl : okB ops o M = true) (f : FuncId) (args : Array Value)
    (hr : ∀ w, (execOp a.eval o).run P w = .ok (.enter f args) w) (d : Tmp) (hd : o.dst = some d) (R : Value → World → Prop) (hR : ∀ u w w', Ext w w' → R u w → R u w')
    (hc : ∀ x : Grow w0, Calls P f args (w0.ext x) fun e w'' => ∃ u, e = .returned u ∧ R u w'' ∧ Ext (w0.ext x) w'')
    (h : wpG P ops (gCls w0) ds QG rest (envM (a.put (some d) undef) ((d, R) :: M))) : wpG P ops (gCls w0) ds QG (o :: rest) (envM a M) :=
  gm_cp hds hw hsel (okB_look hl) f args hr d hd R hR hc (by have e := okB_fresh hl; rw [hd] at e; rw [e]; exact h)
theorem gv (hds : a.defers = ds) (hw : Region.wanted o (yielded ops a.tmps) = true) (hsel : notSelB o = true) (hl : okB ops o M = true) (d : Tmp) (hd : o.dst = some d)
    (R : Value → World → Prop) (hR : ∀ u w w', Ext w w' → R u w → R u w')
    (hr : ∀ x : Grow w0, ∃ v w', (execOp a.eval o).run P (w0.ext x) = .ok (.value v) w' ∧ R v w' ∧ Ext (w0.ext x) w')
    (h : wpG P ops (gCls w0) ds QG rest (envM (a.put (some d) undef) ((d, R) :: M))) : wpG P ops (gCls w0) ds QG (o :: rest) (envM a M) :=
  gm_v hds hw hsel (okB_look hl) d hd R hR hr (by have e := okB_fresh hl; rw [hd] at e; rw [e]; exact h)
theorem ge (hd : a.defers = ds) (hw : Region.wanted o (yielded ops a.tmps) = true) (hsel : notSelB o = true) (hl : okB ops o M = true) (v : Value)
    (hr : ∀ w, (execOp a.eval o).run P w = .ok (.value v) w)
    (h : wpG P ops (gCls w0) ds QG rest (envM (a.put o.dst v) M)) : wpG P ops (gCls w0) ds QG (o :: rest) (envM a M) :=
  gm_e hd hw hsel (okB_look hl) v hr (by rw [okB_fresh hl]; exact h)
theorem gx (hd : a.defers = ds) (hw : Region.wanted o (yielded ops a.tmps) = true) (hsel : notSelB o = true) (hl : okB ops o M = true) (v : Value)
    (hr : ∀ x : Grow w0, (execOp a.eval o).run P (w0.ext x) = .ok (.value v) (w0.ext x))
    (h : wpG P ops (gCls w0) ds QG rest (envM (a.put o.dst v) M)) : wpG P ops (gCls w0) ds QG (o :: rest) (envM a M) :=
  gm_x hd hw hsel (okB_look hl) v hr (by rw [okB_fresh hl]; exact h)
/-- What is known of the slots at which an operation looks. -/
def Looks (ops : Array Oper) (o : Oper) (a : Act) (M : Opq) (xs : Nat → Value) (w : World) : Prop :=
  ∀ t ∈ o.looksAt ops, t < a.tmps.size → ∀ R, Opq.at M t = some R → R (xs t) w
/-- A call whose arguments hang on such slots: one value. -/
theorem gcx (hds : a.defers = ds) (hf : freshB o M = true) (f : FuncId) (args : (Nat → Value) → Array Value) (v : Value)
    (hw : ∀ xs, Region.wanted o (yielded ops (fillM a xs M).tmps) = true)
    (hr : ∀ xs w, (execOp (fillM a xs M).eval o).run P w = .ok (.enter f (args xs)) w)
    (hc : ∀ (xs : Nat → Value) (x : Grow w0), Looks ops o a M xs (w0.ext x) → Calls P f (args xs) (w0.ext x) fun e w'' => e = .returned v ∧ Ext (w0.ext x) w'')
    (h : wpG P ops (gCls w0) ds QG rest (envM (a.put o.dst v) M)) : wpG P ops (gCls w0) ds QG (o :: rest) (envM a M) := by
  refine gm_op hds (.v v) (Sl.stable_v _ _) (fun xs x hk => ?_) (by rw [envM_put_v, Opq.off_fresh hf]; exact h)
  unfold gStep
  rw [if_pos (hw xs), hr xs]
  exact ⟨Ext.refl _, (hc xs x hk).mono fun e w'' ⟨he, hx⟩ => ⟨v, he, rfl, hx, (ext_ext w0 x).trans hx⟩⟩
/-- .. a predicate. -/
theorem gcxp (hds : a.defers = ds) (hf : freshB o M = true) (f : FuncId) (args : (Nat → Value) → Array Value) (d : Tmp) (hd : o.dst = some d) (R : Value → World → Prop) (hR : ∀ u w w', Ext w w' → R u w → R u w')
    (hw : ∀ xs, Region.wanted o (yielded ops (fillM a xs M).tmps) = true)
    (hr : ∀ xs w, (execOp (fillM a xs M).eval o).run P w = .ok (.enter f (args xs)) w)
    (hc : ∀ (xs : Nat → Value) (x : Grow w0), Looks ops o a M xs (w0.ext x) → Calls P f (args xs) (w0.ext x) fun e w'' => ∃ u, e = .returned u ∧ R u w'' ∧ Ext (w0.ext x) w'')
    (h : wpG P ops (gCls w0) ds QG rest (envM (a.put (some d) undef) ((d, R) :: M))) : wpG P ops (gCls w0) ds QG (o :: rest) (envM a M) := by
  refine gm_op hds (.p R) hR (fun xs x hk => ?_) (by have e := Opq.off_fresh hf; rw [hd] at e; rw [hd, envM_put_p, e]; exact h)
  unfold gStep
  rw [if_pos (hw xs), hr xs]
  exact ⟨Ext.refl _, (hc xs x hk).mono fun e w'' ⟨u, he, hu, hx⟩ => ⟨u, he, hu, hx, (ext_ext w0 x).trans hx⟩⟩
/-- An operation that hangs on such slots, of which a predicate is known. -/
theorem gvx (hds : a.defers = ds) (hf : freshB o M = true) (d : Tmp) (hd : o.dst = some d) (R : Value → World → Prop) (hR : ∀ u w w', Ext w w' → R u w → R u w')
    (hw : ∀ xs, Region.wanted o (yielded ops (fillM a xs M).tmps) = true)
    (hr : ∀ (xs : Nat → Value) (x : Grow w0), Looks ops o a M xs (w0.ext x) → ∃ v w', (execOp (fillM a xs M).eval o).run P (w0.ext x) = .ok (.value v) w' ∧ R v w' ∧ Ext (w0.ext x) w')
    (h : wpG P ops (gCls w0) ds QG rest (envM (a.put (some d) undef) ((d, R) :: M))) : wpG P ops (gCls w0) ds QG (o :: rest) (envM a M) := by
  refine gm_op hds (.p R) hR (fun xs x hk => ?_) (by have e := Opq.off_fresh hf; rw [hd] at e; rw [hd, envM_put_p, e]; exact h)
  unfold gStep
  obtain ⟨v, w', h1, h2, h3⟩ := hr xs x hk
  rw [if_pos (hw xs), h1]
  exact ⟨h2, h3, (ext_ext w0 x).trans h3⟩
/-- .. one value. -/
theorem gxx (hds : a.defers = ds) (hf : freshB o M = true) (v : Value)
    (hw : ∀ xs, Region.wanted o (yielded ops (fillM a xs M).tmps) = true)
    (hr : ∀ (xs : Nat → Value) (x : Grow w0), Looks ops o a M xs (w0.ext x) → (execOp (fillM a xs M).eval o).run P (w0.ext x) = .ok (.value v) (w0.ext x))
    (h : wpG P ops (gCls w0) ds QG rest (envM (a.put o.dst v) M)) : wpG P ops (gCls w0) ds QG (o :: rest) (envM a M) := by
  refine gm_op hds (.v v) (Sl.stable_v _ _) (fun xs x hk => ?_) (by rw [envM_put_v, Opq.off_fresh hf]; exact h)
  unfold gStep
  rw [if_pos (hw xs), hr xs x hk]
  exact ⟨rfl, Ext.refl _, ext_ext w0 x⟩
end
end Go.Proofs.Ytapojpjmeadabaa

/- Rules of that theorem: the frame written out, fixed slots of new blocks. -/
import Derived.Test.YtapojpjmeadabaaRegf
namespace Go.Proofs.Ytapojpjmeadabaa.FF
open Go.RowKit
set_option linter.unusedVariables false
set_option linter.unusedSimpArgs false
section
variable {P : Program} {ops : Array Oper} {w0 : World} {F : List Nat} {QG : List Sl → Prop} {rest : List Oper} {o : Oper} {a : Act} {M : Opq} {ds : List Deferred}
abbrev fCls (w0 : World) (F : List Nat) : Cls := Cls.grownF w0 F
def notF (o : Oper) (F : List Nat) : Bool := match o.dst with | some d => !F.contains d | none => true
theorem newAt_not (h : notF o F = true) {u : Value} {w w' : World} : newAt (fCls w0 F) o.dst u w w' := fun d hd hm => by
  unfold notF at h
  rw [hd] at h
  have : d ∈ F := hm
  simp [this] at h
theorem f_same (hsel : notSelB o = true) (hl : okB ops o M = true) {s : Sl} (hs : SlS (fCls w0 F) s) (h : ∀ w, Ext w0 w → gStep P (fCls w0 F) ops o a w s) :
    gYields P ops (fCls w0 F) a.defers o s (envM a M) :=
  ⟨hs, fun xs w hC _ => by
    unfold gStep
    rw [wanted_same a xs (okB_look hl), execOp_congr o (notSel hsel) (eval_same a xs (okB_look hl))]
    exact h w hC⟩
theorem fx (hd : a.defers = ds) (hw : Region.wanted o (yielded ops a.tmps) = true) (hsel : notSelB o = true) (hl : okB ops o M = true) (hF : notF o F = true) (v : Value)
    (hr : ∀ x : Grow w0, (execOp a.eval o).run P (w0.ext x) = .ok (.value v) (w0.ext x))
    (h : wpG P ops (fCls w0 F) ds QG rest (envM (a.put o.dst v) M)) : wpG P ops (fCls w0 F) ds QG (o :: rest) (envM a M) := by
  subst hd
  exact ⟨.v v, f_same hsel hl (SlS_v _ v) (fun w hC => by
    unfold gStep
    obtain ⟨x, rfl⟩ := mk_ext hC
    rw [if_pos hw, hr x]
    exact ⟨rfl, Ext.refl _, hC, newAt_not hF⟩), by rw [envM_put_v, okB_fresh hl]; exact h⟩
theorem fc (hd : a.defers = ds) (hw : Region.wanted o (yielded ops a.tmps) = true) (hsel : notSelB o = true) (hl : okB ops o M = true) (hF : notF o F = true) (f : FuncId) (args : Array Value)
    (hr : ∀ w, (execOp a.eval o).run P w = .ok (.enter f args) w) (v : Value)
    (hc : ∀ x : Grow w0, Calls P f args (w0.ext x) fun e w'' => e = .returned v ∧ Ext (w0.ext x) w'')
    (h : wpG P ops (fCls w0 F) ds QG rest (envM (a.put o.dst v) M)) : wpG P ops (fCls w0 F) ds QG (o :: rest) (envM a M) := by
  subst hd
  exact ⟨.v v, f_same hsel hl (SlS_v _ v) (fun w hC => by
    unfold gStep
    rw [if_pos hw, hr w]
    obtain ⟨x, rfl⟩ := mk_ext hC
    exact ⟨Ext.refl _, (hc x).mono fun e w'' ⟨he, hx⟩ => ⟨v, he, rfl, hx, hC.trans hx, newAt_not hF⟩⟩), by rw [envM_put_v, okB_fresh hl]; exact h⟩
theorem fa (hds : a.defers = ds) (hw : Region.wanted o (yielded ops a.tmps) = true) (hsel : notSelB o = true) (hl : okB ops o M = true) (d : Tmp) (hd : o.dst = some d)
    (R : Value → World → Prop) (hR : ∀ u w w', Ext w w' → R u w → R u w')
    (hr : ∀ x : Grow w0, ∃ g w', (execOp a.eval o).run P (w0.ext x) = .ok (.value (.pointer (some ⟨g, 0, none⟩))) w' ∧ (w0.ext x).heap.size ≤ g ∧ g < w'.heap.size ∧ R (.pointer (some ⟨g, 0, none⟩)) w' ∧ Ext (w0.ext x) w')
    (h : wpG P ops (fCls w0 F) ds QG rest (envM (a.put (some d) undef) ((d, R) :: M))) : wpG P ops (fCls w0 F) ds QG (o :: rest) (envM a M) := by
  subst hds
  exact ⟨.p R, f_same hsel hl hR (fun w hC => by
    unfold gStep
    obtain ⟨x, rfl⟩ := mk_ext hC
    obtain ⟨g, w', h1, h2, h3, h4, h5⟩ := hr x
    rw [if_pos hw, h1]
    exact ⟨h4, h5, hC.trans h5, fun _ _ _ => ⟨g, rfl, h2, h3⟩⟩), by have e := okB_fresh hl; rw [hd] at e; rw [hd, envM_put_p, e]; exact h⟩
/-- The end: whatever the slots came to; those of new blocks apart. -/
theorem fend {K : Act → World → Prop} (hds : a.defers = ds) (M' : Opq) (hM : M = M')
    (h : ∀ (xs : Nat → Value) (x : Grow w0), (∀ (t : Nat), t < a.tmps.size → ∀ R, Opq.at M' t = some R → R (xs t) (w0.ext x)) →
      (∀ t ∈ F, ∀ t' ∈ F, t ≠ t' → t < a.tmps.size → t' < a.tmps.size → (Opq.at M' t).isSome = true → (Opq.at M' t').isSome = true → xs t ≠ xs t') → K (fillM a xs M') (w0.ext x)) :
    wpG P ops (fCls w0 F) ds (gPost (fCls w0 F) ds K) [] (envM a M) := by
  subst hM
  subst hds
  intro xs w hC hk hap
  obtain ⟨x, rfl⟩ := mk_ext hC
  rw [fillA_fillM]
  have key : ∀ t R, t < a.tmps.size → Opq.at M t = some R → (envM a M)[t]? = some (Sl.p R) := fun t R hl hR => by
    unfold envM
    rw [envFrom_get]
    simp [hl, slotM, hR]
  refine h xs x (fun t hl R hR => hk t R (key t R hl hR)) (fun t ht t' ht' hne hl hl' hs hs' => ?_)
  obtain ⟨R, hR⟩ := Option.isSome_iff_exists.1 hs
  obtain ⟨R', hR'⟩ := Option.isSome_iff_exists.1 hs'
  exact hap t ht t' ht' hne R R' (key t R hl hR) (key t' R' hl' hR')
end
theorem wp_region_ft {P : Program} {id : Nat} {Q : Exit → Act → World → Prop} {a : Act} {w : World} {l : List Oper} (n : Nat) (F : List Nat) (hm : P.follows .mixedOrders = true) (hB : Region.lexTailB .any l.toArray n = true)
    (h : wpG P l.toArray (fCls w F) a.defers (gPost (fCls w F) a.defers (fun a' w' => wpList P l.toArray Q (l.drop n) a' w')) (l.take n) (envM a [])) : (Code.region id l.toArray true).wp P Q a w :=
  wp_region_ct n (fCls w F) (Ext.refl w).drew hm hB (by rw [envM_nil] at h; exact h)
end Go.Proofs.Ytapojpjmeadabaa.FF

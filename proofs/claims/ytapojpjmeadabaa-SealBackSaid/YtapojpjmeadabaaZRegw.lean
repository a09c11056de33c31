/- Regw, Regy, Copies, Byt, One, Pads, Sums, Str, Mac1, Mac2: several texts in one. -/
import Derived.Test.YtapojpjmeadabaaZRegm
import Derived.Laws.OwnMore
import Derived.Laws.IdiomStrings
import Derived.Laws.BytesArg
section
/- Two more rules of the region theorem: a call whose argument is known by a predicate; an operation whose value is known in every grown world. -/
namespace Go.Proofs.Ytapojpjmeadabaa
open Go.RowKit
set_option linter.unusedVariables false
set_option linter.unusedSimpArgs false
section
variable {P : Program} {ops : Array Oper} {w0 : World} {QG : List Sl → Prop} {rest : List Oper} {o : Oper} {a : Act} {M : Opq} {ds : List Deferred}
theorem gm_co (hds : a.defers = ds) (M' : Opq) (hMM : M = M') (t : Tmp) (R : Value → World → Prop) (ht : t ∈ o.looksAt ops) (hlt : t < a.tmps.size) (hM : Opq.at M' t = some R) (f : FuncId) (v : Value)
    (hw : ∀ xs, Region.wanted o (yielded ops (fillM a xs M').tmps) = true)
    (hr : ∀ xs w, (execOp (fillM a xs M').eval o).run P w = .ok (.enter f #[xs t]) w)
    (hc : ∀ (x : Grow w0) (u : Value), R u (w0.ext x) → Calls P f #[u] (w0.ext x) fun e w'' => e = .returned v ∧ Ext (w0.ext x) w'')
    (h : wpG P ops (gCls w0) ds QG rest (envM (a.put o.dst v) (M.off o.dst))) : wpG P ops (gCls w0) ds QG (o :: rest) (envM a M) := by
  subst hMM
  refine gm_op hds (.v v) (Sl.stable_v _ _) (fun xs x hk => ?_) (by rw [envM_put_v]; exact h)
  unfold gStep
  rw [if_pos (hw xs), hr xs]
  exact ⟨Ext.refl _, (hc x _ (hk t ht hlt R hM)).mono fun e w'' ⟨he, hx⟩ => ⟨v, he, rfl, hx, (ext_ext w0 x).trans hx⟩⟩
/-- The frame's opaque slots under their short names. -/
theorem gm_M (M' : Opq) (hMM : M = M') (h : wpG P ops (gCls w0) ds QG rest (envM a M')) : wpG P ops (gCls w0) ds QG rest (envM a M) := by
  subst hMM
  exact h
theorem gm_x (hd : a.defers = ds) (hw : Region.wanted o (yielded ops a.tmps) = true) (hsel : notSelB o = true) (hl : noLook ops o M = true) (v : Value)
    (hr : ∀ x : Grow w0, (execOp a.eval o).run P (w0.ext x) = .ok (.value v) (w0.ext x))
    (h : wpG P ops (gCls w0) ds QG rest (envM (a.put o.dst v) (M.off o.dst))) : wpG P ops (gCls w0) ds QG (o :: rest) (envM a M) := by
  subst hd
  exact ⟨.v v, gYields_same (notSel hsel) hl (Sl.stable_v _ _) (fun w hC => by
    unfold gStep
    obtain ⟨x, rfl⟩ := mk_ext hC
    rw [if_pos hw, hr x]
    exact ⟨rfl, Ext.refl _, hC⟩), by rw [envM_put_v]; exact h⟩
end
/-- A load of a whole digest, run. -/
theorem exec_load27 {o : Oper} {ρ : Operand → Value} (p : Operand) (ho : o.op = .load 27 p) (g : Nat) (hp : ρ p = .pointer (some ⟨g, 0, none⟩)) (l : List UInt8) (hl : l.length = 32) (w : World) (hg : w.heap[g]? = some (.cells (row8 l) 27 (0, 0))) :
    (execOp ρ o).run Try.prog w = .ok (.value (Dig l)) w := by
  unfold execOp
  simp only [ho, hp, Instr.loadAt, Instr.sureAddr, Sem.run_bind, Sem.run_pure, Result.andThen_ok, run_loadVar_row w g 27 27 (row8 l) (0, 0) _ hg Try.underlying27 rfl (size27 l hl)]
end Go.Proofs.Ytapojpjmeadabaa
end

section
/- The region theorem's rules once more, for frames whose known-by-a-predicate slots are named once and stay: each rule leaves that list as it is, or puts one slot ahead of it. -/
namespace Go.Proofs.Ytapojpjmeadabaa
open Go.RowKit
set_option linter.unusedVariables false
set_option linter.unusedSimpArgs false

def freshB (o : Oper) (M : Opq) : Bool := match o.dst with | some d => M.all (fun p => p.1 != d) | none => true
def okB (ops : Array Oper) (o : Oper) (M : Opq) : Bool := noLook ops o M && freshB o M
theorem Opq.off_fresh {M : Opq} {o : Oper} (h : freshB o M = true) : M.off o.dst = M := by
  unfold freshB at h
  unfold Opq.off
  cases hd : o.dst with
  | none => rfl
  | some d =>
    rw [hd] at h
    exact List.filter_eq_self.2 fun p hp => List.all_eq_true.1 h p hp
theorem okB_look {ops : Array Oper} {o : Oper} {M : Opq} (h : okB ops o M = true) : noLook ops o M = true := (Bool.and_eq_true_iff.1 h).1
theorem okB_fresh {ops : Array Oper} {o : Oper} {M : Opq} (h : okB ops o M = true) : M.off o.dst = M := Opq.off_fresh (Bool.and_eq_true_iff.1 h).2
theorem okB_nil (ops : Array Oper) (o : Oper) : okB ops o [] = true := by
  unfold okB noLook freshB
  cases o.dst <;> simp

section
variable {P : Program} {ops : Array Oper} {w0 : World} {QG : List Sl → Prop} {rest : List Oper} {o : Oper} {a : Act} {M : Opq} {ds : List Deferred}
/-- Quiet. -/
theorem gq (hd : a.defers = ds) (hw : Region.wanted o (yielded ops a.tmps) = true) (hl : okB ops o M = true) (hp : plainB o = true)
    (h : ∀ K : Act → Prop, (∀ a', wpG P ops (gCls w0) ds QG rest (envM a' M) → K a') → o.quiet P a (fun w' => ∃ x : Grow w0, w' = w0.ext x) K) : wpG P ops (gCls w0) ds QG (o :: rest) (envM a M) :=
  gm_q hd hw (okB_look hl) hp (fun K hK => h K (fun a' hw' => hK a' (by rw [okB_fresh hl]; exact hw')))
theorem gskip (hd : a.defers = ds) (hw : Region.wanted o (yielded ops a.tmps) = false) (hsel : notSelB o = true) (hl : okB ops o M = true)
    (h : wpG P ops (gCls w0) ds QG rest (envM (a.put o.dst undef) M)) : wpG P ops (gCls w0) ds QG (o :: rest) (envM a M) :=
  gm_skip hd hw hsel (okB_look hl) (by rw [okB_fresh hl]; exact h)
/-- A call of one value. -/
theorem gc (hd : a.defers = ds) (hw : Region.wanted o (yielded ops a.tmps) = true) (hsel : notSelB o = true) (hl : okB ops o M = true) (f : FuncId) (args : Array Value)
    (hr : ∀ w, (execOp a.eval o).run P w = .ok (.enter f args) w) (v : Value)
    (hc : ∀ x : Grow w0, Calls P f args (w0.ext x) fun e w'' => e = .returned v ∧ Ext (w0.ext x) w'')
    (h : wpG P ops (gCls w0) ds QG rest (envM (a.put o.dst v) M)) : wpG P ops (gCls w0) ds QG (o :: rest) (envM a M) :=
  gm_c hd hw hsel (okB_look hl) f args hr v hc (by rw [okB_fresh hl]; exact h)
/-- A call of which a predicate is known. -/
theorem gcp (hds : a.defers = ds) (hw : Region.wanted o (yielded ops a.tmps) = true) (hsel : notSelB o = true) (hl : okB ops o M = true) (f : FuncId) (args : Array Value)
    (hr : ∀ w, (execOp a.eval o).run P w = .ok (.enter f args) w) (d : Tmp) (hd : o.dst = some d) (R : Value → World → Prop) (hR : ∀ u w w', Ext w w' → R u w → R u w')
    (hc : ∀ x : Grow w0, Calls P f args (w0.ext x) fun e w'' => ∃ u, e = .returned u ∧ R u w'' ∧ Ext (w0.ext x) w'')
    (h : wpG P ops (gCls w0) ds QG rest (envM (a.put (some d) undef) ((d, R) :: M))) : wpG P ops (gCls w0) ds QG (o :: rest) (envM a M) :=
  gm_cp hds hw hsel (okB_look hl) f args hr d hd R hR hc (by have e := okB_fresh hl; rw [hd] at e; rw [e]; exact h)
theorem gv (hds : a.defers = ds) (hw : Region.wanted o (yielded ops a.tmps) = true) (hsel : notSelB o = true) (hl : okB ops o M = true) (d : Tmp) (hd : o.dst = some d)
    (R : Value → World → Prop) (hR : ∀ u w w', Ext w w' → R u w → R u w')
    (hr : ∀ x : Grow w0, ∃ v w', (execOp a.eval o).run P (w0.ext x) = .ok (.value v) w' ∧ R v w' ∧ Ext (w0.ext x) w')
    (h : wpG P ops (gCls w0) ds QG rest (envM (a.put (some d) undef) ((d, R) :: M))) : wpG P ops (gCls w0) ds QG (o :: rest) (envM a M) :=
  gm_v hds hw hsel (okB_look hl) d hd R hR hr (by have e := okB_fresh hl; rw [hd] at e; rw [e]; exact h)
theorem ge (hd : a.defers = ds) (hw : Region.wanted o (yielded ops a.tmps) = true) (hsel : notSelB o = true) (hl : okB ops o M = true) (v : Value)
    (hr : ∀ w, (execOp a.eval o).run P w = .ok (.value v) w)
    (h : wpG P ops (gCls w0) ds QG rest (envM (a.put o.dst v) M)) : wpG P ops (gCls w0) ds QG (o :: rest) (envM a M) :=
  gm_e hd hw hsel (okB_look hl) v hr (by rw [okB_fresh hl]; exact h)
theorem gx (hd : a.defers = ds) (hw : Region.wanted o (yielded ops a.tmps) = true) (hsel : notSelB o = true) (hl : okB ops o M = true) (v : Value)
    (hr : ∀ x : Grow w0, (execOp a.eval o).run P (w0.ext x) = .ok (.value v) (w0.ext x))
    (h : wpG P ops (gCls w0) ds QG rest (envM (a.put o.dst v) M)) : wpG P ops (gCls w0) ds QG (o :: rest) (envM a M) :=
  gm_x hd hw hsel (okB_look hl) v hr (by rw [okB_fresh hl]; exact h)
/-- What is known of the slots at which an operation looks. -/
def Looks (ops : Array Oper) (o : Oper) (a : Act) (M : Opq) (xs : Nat → Value) (w : World) : Prop :=
  ∀ t ∈ o.looksAt ops, t < a.tmps.size → ∀ R, Opq.at M t = some R → R (xs t) w
/-- A call whose arguments hang on such slots: one value. -/
theorem gcx (hds : a.defers = ds) (hf : freshB o M = true) (f : FuncId) (args : (Nat → Value) → Array Value) (v : Value)
    (hw : ∀ xs, Region.wanted o (yielded ops (fillM a xs M).tmps) = true)
    (hr : ∀ xs w, (execOp (fillM a xs M).eval o).run P w = .ok (.enter f (args xs)) w)
    (hc : ∀ (xs : Nat → Value) (x : Grow w0), Looks ops o a M xs (w0.ext x) → Calls P f (args xs) (w0.ext x) fun e w'' => e = .returned v ∧ Ext (w0.ext x) w'')
    (h : wpG P ops (gCls w0) ds QG rest (envM (a.put o.dst v) M)) : wpG P ops (gCls w0) ds QG (o :: rest) (envM a M) := by
  refine gm_op hds (.v v) (Sl.stable_v _ _) (fun xs x hk => ?_) (by rw [envM_put_v, Opq.off_fresh hf]; exact h)
  unfold gStep
  rw [if_pos (hw xs), hr xs]
  exact ⟨Ext.refl _, (hc xs x hk).mono fun e w'' ⟨he, hx⟩ => ⟨v, he, rfl, hx, (ext_ext w0 x).trans hx⟩⟩
/-- .. a predicate. -/
theorem gcxp (hds : a.defers = ds) (hf : freshB o M = true) (f : FuncId) (args : (Nat → Value) → Array Value) (d : Tmp) (hd : o.dst = some d) (R : Value → World → Prop) (hR : ∀ u w w', Ext w w' → R u w → R u w')
    (hw : ∀ xs, Region.wanted o (yielded ops (fillM a xs M).tmps) = true)
    (hr : ∀ xs w, (execOp (fillM a xs M).eval o).run P w = .ok (.enter f (args xs)) w)
    (hc : ∀ (xs : Nat → Value) (x : Grow w0), Looks ops o a M xs (w0.ext x) → Calls P f (args xs) (w0.ext x) fun e w'' => ∃ u, e = .returned u ∧ R u w'' ∧ Ext (w0.ext x) w'')
    (h : wpG P ops (gCls w0) ds QG rest (envM (a.put (some d) undef) ((d, R) :: M))) : wpG P ops (gCls w0) ds QG (o :: rest) (envM a M) := by
  refine gm_op hds (.p R) hR (fun xs x hk => ?_) (by have e := Opq.off_fresh hf; rw [hd] at e; rw [hd, envM_put_p, e]; exact h)
  unfold gStep
  rw [if_pos (hw xs), hr xs]
  exact ⟨Ext.refl _, (hc xs x hk).mono fun e w'' ⟨u, he, hu, hx⟩ => ⟨u, he, hu, hx, (ext_ext w0 x).trans hx⟩⟩
/-- An operation that hangs on such slots, of which a predicate is known. -/
theorem gvx (hds : a.defers = ds) (hf : freshB o M = true) (d : Tmp) (hd : o.dst = some d) (R : Value → World → Prop) (hR : ∀ u w w', Ext w w' → R u w → R u w')
    (hw : ∀ xs, Region.wanted o (yielded ops (fillM a xs M).tmps) = true)
    (hr : ∀ (xs : Nat → Value) (x : Grow w0), Looks ops o a M xs (w0.ext x) → ∃ v w', (execOp (fillM a xs M).eval o).run P (w0.ext x) = .ok (.value v) w' ∧ R v w' ∧ Ext (w0.ext x) w')
    (h : wpG P ops (gCls w0) ds QG rest (envM (a.put (some d) undef) ((d, R) :: M))) : wpG P ops (gCls w0) ds QG (o :: rest) (envM a M) := by
  refine gm_op hds (.p R) hR (fun xs x hk => ?_) (by have e := Opq.off_fresh hf; rw [hd] at e; rw [hd, envM_put_p, e]; exact h)
  unfold gStep
  obtain ⟨v, w', h1, h2, h3⟩ := hr xs x hk
  rw [if_pos (hw xs), h1]
  exact ⟨h2, h3, (ext_ext w0 x).trans h3⟩
/-- .. one value. -/
theorem gxx (hds : a.defers = ds) (hf : freshB o M = true) (v : Value)
    (hw : ∀ xs, Region.wanted o (yielded ops (fillM a xs M).tmps) = true)
    (hr : ∀ (xs : Nat → Value) (x : Grow w0), Looks ops o a M xs (w0.ext x) → (execOp (fillM a xs M).eval o).run P (w0.ext x) = .ok (.value v) (w0.ext x))
    (h : wpG P ops (gCls w0) ds QG rest (envM (a.put o.dst v) M)) : wpG P ops (gCls w0) ds QG (o :: rest) (envM a M) := by
  refine gm_op hds (.v v) (Sl.stable_v _ _) (fun xs x hk => ?_) (by rw [envM_put_v, Opq.off_fresh hf]; exact h)
  unfold gStep
  rw [if_pos (hw xs), hr xs x hk]
  exact ⟨rfl, Ext.refl _, ext_ext w0 x⟩
end
end Go.Proofs.Ytapojpjmeadabaa
end

section
/- sacristanlaw02.ShaCopies: a copied hash goes its own way. -/
namespace Go.Proofs.Ytapojpjmeadabaa
open Go.RowKit
set_option linter.unusedVariables false
set_option linter.unusedSimpArgs false
attribute [local go_sem] lt_ext cell?_ext frozen?_ext shape?_ext

/-- Bytes of one's own, for stores: the block and that its cells are there. -/
structure Mut (w : World) (A : Option Addr) (n G : Nat) : Prop where
  at_ : 0 < n → A = some ⟨G, 0, none⟩ ∧ ∃ cur, w.heap[G]? = some (.cells cur 5 (0, 0)) ∧ n ≤ cur.size
theorem Own.mut {w : World} {v : Value} {l : List UInt8} (h : OwnB w v l) (N : Nat) :
    ∃ A cap G, v = .slice A l.length cap ∧ l.length ≤ cap ∧ cap ≤ maxLen ∧ Mut w A l.length G ∧ (v.ownBlock = some G ∨ G = N) := by
  obtain ⟨hl, h2⟩ := h
  rcases h2 with ⟨rfl, hn⟩ | ⟨g, cap, cur, rfl, _, hg, h1, h2, hs, ht⟩
  · exact ⟨none, 0, N, by rw [hn], by omega, Nat.zero_le _, ⟨fun h => by omega⟩, .inr rfl⟩
  · exact ⟨_, cap, g, rfl, h1, h2, ⟨fun _ => ⟨rfl, cur, hg, by omega⟩⟩, .inl rfl⟩
theorem Mut.chg {w w' : World} {A : Option Addr} {n G : Nat} {S : Nat → Prop} (h : Mut w A n G) (hc : Chg w w' S) (hS : ¬ S G) : Mut w' A n G :=
  ⟨fun h0 => by
    obtain ⟨h1, cur, h2, h3⟩ := h.at_ h0
    exact ⟨h1, cur, (hc.block G (Array.getElem?_eq_some_iff.1 h2).1 hS).trans h2, h3⟩⟩
theorem Mut.set {w : World} {A : Option Addr} {n G : Nat} (h : Mut w A n G) (i : Nat) (x : Value) : Mut (w.setCell ⟨G, i, none⟩ x) A n G :=
  ⟨fun h0 => by
    obtain ⟨h1, cur, h2, h3⟩ := h.at_ h0
    exact ⟨h1, _, heap_setCell_same _ _ i _ _ x h2, by simpa using h3⟩⟩
theorem Chg.set1 {w w' : World} {g : Nat} (h : Chg w w' (· = g)) (i : Nat) (x : Value) : Chg w (w'.setCell ⟨g, i, none⟩ x) (· = g) :=
  Chg.trans h (S := (· = g)) ⟨rfl, by simp, rfl, by simp, fun k hk hn => heap_setCell_other _ _ _ _ (by simpa using hn)⟩ fun _ _ e => e

/-- A Write to one Hash leaves another alone. -/
theorem HashAt.other {w w' : World} {hb kb hb2 kb2 : Nat} {rv rv2 : Value} {m m2 : List UInt8} (h1 : HashAt w hb kb rv m) (h2 : HashAt w hb2 kb2 rv2 m2) (hne : hb2 ≠ hb)
    (hr : ∀ g, rv.ownBlock = some g → rv2.ownBlock = some g → False) (hc : Chg w w' (hset hb rv)) : HashAt w' hb2 kb2 rv2 m2 := by
  obtain ⟨p1, r1, _, _, _, hh1, ho1⟩ := h1.ex
  obtain ⟨p2, r2, _, _, _, hh2, ho2⟩ := h2.ex
  refine h2.chg hc ?_ ?_ ?_
  · rintro (e | e)
    · exact hne e
    · exact Own.not_block ho1 hh2 (by decide) e.symm
  · rintro (e | e)
    · have hk := h2.k
      rw [e, hh1] at hk
      injection hk with e2
      injection e2 with e3 e4 e5
      exact absurd e4 (by decide)
    · exact Own.not_block ho1 h2.k (by decide) e.symm
  · intro g hg
    rintro (e | e)
    · subst e
      exact Own.not_block ho2 hh1 (by decide) hg
    · exact hr g e.symm hg
set_option maxRecDepth 100000 in
set_option maxHeartbeats 1000000 in
theorem copies_any (va vb vc : Value) (la lb lc : List UInt8) (ha : la.length ≤ 140737488355328) (hb0 : lb.length ≤ 140737488355328) (hc0 : lc.length ≤ 140737488355328) (w : World) (hA : Bs w va la) (hB : Bs w vb lb) (hC : Bs w vc lc) :
    Calls Try.prog 5 #[va, vb, vc] w fun e w' => e = .returned (.bool true) ∧ Ext w w' := by
  obtain ⟨A, cap, rfl, hcap, hcm, _, _⟩ := hA.is
  obtain ⟨A', cap', rfl, hcap', hcm', _, _⟩ := hB.is
  obtain ⟨A'', cap'', rfl, hcap'', hcm'', _, _⟩ := hC.is
  have HA := Lib.hid hA
  have HB := Lib.hid hB
  have HC := Lib.hid hC
  clear hA hB hC
  by_cases h1 : 1000 < la.length + lb.length + lc.length
  · go_enter Try.func5, Try.ntmps5
    go_wp2_with (go_at_call 29; go_must (refine (known_any _).mono ?_; rintro e w1 ⟨rfl, hx1⟩))
    go_ret
    exact ⟨rfl, hx1⟩
  go_enter Try.func5, Try.ntmps5
  go_wp2_with (first | (go_at_call 32; go_must (refine (new_any _).mono ?_; rintro e w1 ⟨hb, kb, rfl, hH1, hx1, hg1, hk1⟩; have HO1 := Lib.hid (⟨hH1, hx1, hg1, fun g hg => nomatch hg⟩ : OurH w hb kb (.slice none 0 0) [] w1); clear hH1 hx1 hg1)) | (at_builtin; go_must (refine wpList_append_bs rfl _ _ rfl (.slice none 0 0) rfl (l := []) (Own.nil _ _ _) _ rfl (Rd.ext HA.out HO1.out.ext) (by simp; omega) ?_; intro v2 w2 ho2 hg2 hf2; have hx2 := Chg.ext (Chg.of_grew hg2) (fun k hk => nomatch hk); rw [List.nil_append] at ho2; have HO2 := Lib.hid (HO1.out.grow hx2); have HX2 := Lib.hid hx2; have HV2 := Lib.hid ho2; have hv2f : ∀ g, v2.ownBlock = some g → w1.heap.size ≤ g := (hf2.elim (fun e g hg => by rw [e] at hg; cases hg) id); have HF2 := Lib.hid hv2f; clear ho2 hg2 hf2 hx2 hv2f)) | (go_at_call 33; go_must (refine (write_any hb kb _ _ _ la _ HO2.out.at_ HV2.out.rd (by simp; omega)).mono ?_; rintro e w3 ⟨rfl, rv3, hH3, hc3, hf3⟩)))
  obtain ⟨A2, cap2, G, rfl, hcap2, hm2, hmut, hG⟩ := Own.mut HV2.out w3.heap.size
  have k1 := HO1.out.at_.lt
  have k2 := HO1.out.at_.klt
  have s12 : w1.heap.size ≤ w2.heap.size := HX2.out.size
  have s23 : w2.heap.size ≤ w3.heap.size := hc3.size
  have k3 : w1.heap.size ≤ G := by
    rcases hG with e | e
    · exact HF2.out G e
    · omega
  have k4 : ∀ g, rv3.ownBlock = some g → g ≠ G := by
    intro g hg e
    subst e
    rcases hG with e | e
    · have h1 : g < w2.heap.size := Own.lt HV2.out e
      rcases hf3 with e2 | e2
      · rw [e2] at hg; cases hg
      · have := e2 g hg; omega
    · have := hH3.rlt hg; omega
  have HO3 := HO2.out.wrote hH3 hc3 hf3
  rw [List.nil_append] at HO3
  have hmut3 : Mut w3 _ _ G := hmut.chg hc3 (fun e => e.elim (fun e => by omega) (fun e => nomatch e))
  have HM3 := Lib.hid hmut3
  have HO3 := Lib.hid HO3
  have K4 := Lib.hid k4
  have kw : w.heap.size ≤ w1.heap.size := HO1.out.ext.size
  unfold maxLen at hm2
  clear hmut hmut3 hH3 hc3 hf3 hG HV2 HF2 k4
  go_loopw [9] (fun i wr => ∃ k : Nat, k ≤ la.length ∧ i = .int .i64 k ∧ Chg w3 wr (· = G) ∧ Mut wr A2 la.length G) (fun i _ => la.length - (intOf i).toNat)
  case atStart => exact ⟨0, by omega, rfl, Chg.refl _ _, HM3.out⟩
  case round =>
    obtain ⟨k, hk, rfl, hC, hM⟩ := hrel
    by_cases hlt : k < la.length
    · obtain ⟨rfl, cur, hcur, hcs⟩ := hM.at_ (by omega)
      have hcell : wr.cell? ⟨G, k, none⟩ = some (cur[k]'(by omega)) := by rw [cell_of_row _ _ _ _ _ _ hcur]; simp [show k < cur.size by omega]
      have hf : wr.frozen? ⟨G, k, none⟩ = false := frozen_of_row _ _ _ _ _ hcur
      generalize cur[k]'(by omega) = old at hcell
      have HCC := Lib.hid hC
      have HMM := Lib.hid hM
      clear hC hM hcur
      go_wp2
      go_roundw
      case rel => exact ⟨k + 1, by omega, by go_num, HCC.out.set1 _ _, HMM.out.set _ _⟩
      case measure => simp [intOf]; omega
    · obtain rfl : k = la.length := by omega
      have HO4 : OurH w hb kb rv3 la wr := by
        refine ⟨HO3.out.at_.chg hC (by omega) (by omega) K4.out, ?_, HO3.out.ge, HO3.out.fr⟩
        exact (Chg.trans (S := fun _ => False) (Chg.of_ext HO3.out.ext _) hC (fun i hi e => by omega)).ext fun k hk => hk.elim
      have HO4 := Lib.hid HO4
      clear hC hM
      go_wp2_with (first | (go_at_call 35; go_must (refine (copy_any hb kb rv3 la _ HO4.out.at_).mono ?_; rintro e w5 ⟨hb2, rv2, rfl, hH5, hx5, hg5, hf5⟩; have HH5 := Lib.hid hH5; have HX5 := Lib.hid hx5; have HF5 := Lib.hid hf5; have HO5 := Lib.hid (HO4.out.grow hx5); have T1 : True := trivial; clear hH5 hx5 hf5)) | (go_at_call 33; clear T1; go_must (refine (write_any hb kb rv3 _ la lb _ HO5.out.at_ (Rd.ext HB.out HO5.out.ext) (by omega)).mono ?_; rintro e w6 ⟨rfl, rv6, hH6, hc6, hf6⟩; have HO6 := Lib.hid (HO5.out.wrote hH6 hc6 hf6); have hr2 : ∀ g, rv2.ownBlock = some g → w.heap.size ≤ g := (fun g hg => Nat.le_trans HO4.out.ext.size (HF5.out g hg)); have HP6 := Lib.hid (⟨HO5.out.at_.other HH5.out (by have := HO4.out.at_.lt; omega) (fun g h1 h2 => by have := HO4.out.at_.rlt h1; have := HF5.out g h2; omega) hc6, HO6.out.ext, Nat.le_trans HO4.out.ext.size hg5, hr2⟩ : OurH w hb2 kb rv2 la w6); have hapart : ∀ g, rv2.ownBlock = some g → rv6.ownBlock = some g → False := (fun g h1 h2 => by have a1 := HH5.out.rlt h1; have a2 := HF5.out g h1; exact hf6.elim (fun e => by rw [e] at h2; have := HO4.out.at_.rlt h2; omega) (fun e => by have := e g h2; omega)); have HAP := Lib.hid hapart; have T2 : True := trivial; clear hH6 hc6 hf6 hr2 hapart)) | (go_at_call 33; clear T2; go_must (refine (write_any hb2 kb rv2 _ la lc _ HP6.out.at_ (Rd.ext HC.out HP6.out.ext) (by omega)).mono ?_; rintro e w7 ⟨rfl, rv7, hH7, hc7, hf7⟩; have HP7 := Lib.hid (HP6.out.wrote hH7 hc7 hf7); have HO7 := Lib.hid (⟨HP6.out.at_.other HO6.out.at_ (by have := HO4.out.at_.lt; omega) HAP.out hc7, HP7.out.ext, HO6.out.ge, HO6.out.fr⟩ : OurH w hb kb rv6 (la ++ lb) w7); have T3 : True := trivial; clear hH7 hc7 hf7)) | (go_at_call 34; clear T3; go_must (refine (hsum_any hb kb rv6 (la ++ lb) _ HO7.out.at_ (by simp; omega)).mono ?_; rintro e w8 ⟨rfl, hx8⟩; have HX8 := Lib.hid hx8; have T4 : True := trivial; clear hx8)) | (go_at_call 30; clear T4; go_must (refine (sum_any _ _ [la, lb] _ (Rss.two w8 _ _ la lb (Rd.ext HA.out (HO7.out.ext.trans HX8.out)) (Rd.ext HB.out (HO7.out.ext.trans HX8.out))) (by simp; omega)).mono ?_; rintro e w9 ⟨rfl, hx9⟩; rw [show [la, lb].flatten = la ++ lb by simp]; have HX9 := Lib.hid (HX8.out.trans (((Ext.refl w8).alloc _).trans hx9)); have T5 : True := trivial; clear hx9)) | (go_at_call 34; clear T5; go_must (refine (hsum_any hb2 kb rv7 (la ++ lc) _ (HP7.out.grow HX9.out).at_ (by simp; omega)).mono ?_; rintro e w10 ⟨rfl, hx10⟩; have HX10 := Lib.hid (HX9.out.trans hx10); have T6 : True := trivial; clear hx10)) | (go_at_call 30; clear T6; go_must (refine (sum_any _ _ [la, lc] _ (Rss.two w10 _ _ la lc (Rd.ext HA.out (HO7.out.ext.trans HX10.out)) (Rd.ext HC.out (HO7.out.ext.trans HX10.out))) (by simp; omega)).mono ?_; rintro e w11 ⟨rfl, hx11⟩; rw [show [la, lc].flatten = la ++ lc by simp]; have HX11 := Lib.hid (HX10.out.trans (((Ext.refl w10).alloc _).trans hx11)); have T7 : True := trivial; clear hx11)) | (go_at_call 34; clear T7; go_must (refine (hsum_any hb kb rv6 (la ++ lb) _ (HO7.out.grow HX11.out).at_ (by simp; omega)).mono ?_; rintro e w12 ⟨rfl, hx12⟩; have HX12 := Lib.hid (HX11.out.trans hx12); have T8 : True := trivial; clear hx12)) | (go_at_call 34; clear T8; go_must (refine (hsum_any hb kb rv6 (la ++ lb) _ (HO7.out.grow HX12.out).at_ (by simp; omega)).mono ?_; rintro e w13 ⟨rfl, hx13⟩; have HX13 := Lib.hid (HX12.out.trans hx13); have T9 : True := trivial; clear hx13)) | (go_at_call 29; clear T9; go_must (refine (known_any _).mono ?_; rintro e w14 ⟨rfl, hx14⟩; have HX14 := Lib.hid (HX13.out.trans hx14); clear hx14)) | (refine wpl_v (by rfl) _ (exec_eq27 _ _ _ rfl (Sha.sum (la ++ lb)) (Sha.sum (la ++ lb)) rfl rfl (Sha.sum_length _) (Sha.sum_length _) _) ?_) | (refine wpl_v (by rfl) _ (exec_eq27 _ _ _ rfl (Sha.sum (la ++ lc)) (Sha.sum (la ++ lc)) rfl rfl (Sha.sum_length _) (Sha.sum_length _) _) ?_))
      go_ret
      exact ⟨rfl, HO7.out.ext.trans HX14.out⟩
end Go.Proofs.Ytapojpjmeadabaa
end

section
/- Blocks of bytes: made, set, sliced, appended to by noughts. -/
namespace Go.Proofs.Ytapojpjmeadabaa
open Go.RowKit
set_option linter.unusedVariables false
set_option linter.unusedSimpArgs false

/-- A block of bytes, known whole. -/
abbrev Blk (w : World) (g : Nat) (T : TypeId) (l : List UInt8) : Prop := w.heap[g]? = some (.cells (row8 l) T (0, 0))
theorem Blk.lt {w : World} {g T : Nat} {l : List UInt8} (h : Blk w g T l) : g < w.heap.size := (Array.getElem?_eq_some_iff.1 h).1
theorem Blk.cell {w : World} {g T : Nat} {l : List UInt8} (h : Blk w g T l) (i : Nat) (hi : i < l.length) : w.cell? ⟨g, i, none⟩ = some (B8 (l.getD i 0)) := by
  rw [cell_of_row _ _ _ _ _ _ h]; exact row8_get hi
theorem Blk.frozen {w : World} {g T : Nat} {l : List UInt8} (h : Blk w g T l) (i : Nat) : w.frozen? ⟨g, i, none⟩ = false := frozen_of_row _ _ _ _ _ h
theorem Blk.ext {w w' : World} {g T : Nat} {l : List UInt8} (h : Blk w g T l) (hx : Ext w w') : Blk w' g T l := (hx.block h.lt).trans h
theorem Blk.set {w : World} {g T : Nat} {l : List UInt8} (h : Blk w g T l) (i : Nat) (x : UInt8) : Blk (w.setCell ⟨g, i, none⟩ (B8 x)) g T (l.set i x) := by
  have h1 := heap_setCell_same _ _ i _ _ (B8 x) h
  rw [row8_set] at h1
  exact h1
theorem Blk.bs {w : World} {g T : Nat} {l : List UInt8} (h : Blk w g T l) (i n cap : Nat) (hn : i + n ≤ l.length) (hc : n ≤ cap) (hm : cap ≤ 4294967296) : Bs w (.slice (some ⟨g, i, none⟩) n cap) ((l.drop i).take n) := by
  have e : ((l.drop i).take n).length = n := by simp; omega
  unfold Bs
  rw [e]
  refine Rd.lit (by rw [List.length_map, e]; omega) hc (Nat.le_trans hm (by unfold maxLen; decide)) h.lt fun j u hj => ?_
  have hj' : j < n := by
    have := (List.getElem?_eq_some_iff.1 hj).1
    rw [List.length_map, e] at this; exact this
  rw [h.cell (i + j) (by omega)]
  rw [List.getElem?_map, List.getElem?_take, if_pos hj', List.getElem?_drop, List.getElem?_eq_getElem (by omega)] at hj
  simp only [Option.map_some, Option.some.injEq] at hj
  rw [← hj]
  simp [List.getElem?_eq_getElem (show i + j < l.length by omega)]
theorem Blk.whole {w : World} {g T : Nat} {l : List UInt8} (h : Blk w g T l) (n cap : Nat) (hn : n = l.length) (hc : n ≤ cap) (hm : cap ≤ 4294967296) : Bs w (.slice (some ⟨g, 0, none⟩) n cap) l := by
  subst hn
  have := h.bs 0 l.length cap (by omega) hc hm
  simpa using this
theorem Blk.own {w : World} {g : Nat} {l : List UInt8} (h : Blk w g 5 l) (n : Nat) (hn : n = l.length) (hm : n ≤ 4294967296) : OwnB w (.slice (some ⟨g, 0, none⟩) n n) l := by
  subst hn
  refine ⟨by simp, .inr ⟨g, l.length, row8 l, rfl, Nat.zero_le _, h, Nat.le_refl _, Nat.le_trans hm (by unfold maxLen; decide), by simp [row8], (by simp only [row8, Nat.mul_one]; exact List.take_of_length_le (by simp))⟩⟩
theorem zeros_cells (n : Nat) : madeCells (Value.int .u8 0).cells (n * 1) = row8 (Sha.zeros n) := by
  have hc : (Value.int .u8 0).cells = #[Value.int .u8 0] := rfl
  rw [hc]
  apply Array.ext'
  apply List.ext_getElem?
  intro i
  simp only [madeCells, row8, Sha.zeros, List.map_replicate, Array.toList_map, Array.toList_range, List.getElem?_map, List.getElem?_range, List.getElem?_replicate]
  by_cases hi : i < n
  · simp [hi, Nat.mod_one, B8, i8]
  · simp [hi]
theorem wpl_make23 {ops : Array Oper} {rest : List Oper} {o : Oper} {a : Act} {w : World} {Q : Exit → Act → World → Prop} (hgd : o.guard = none) (x y : Operand) (ho : o.op = .makeSlice 23 x y)
    (n : Nat) (hx : a.eval x = .int .i64 (n : Int)) (hy : a.eval y = .int .i64 (n : Int)) (hn : n ≤ 4294967296)
    (h : ∀ w', Blk w' w.heap.size 5 (Sha.zeros n) → Ext w w' → w'.heap.size = w.heap.size + 1 → wpList Try.prog ops Q rest (a.put o.dst (.slice (some ⟨w.heap.size, 0, none⟩) n n)) w') : wpList Try.prog ops Q (o :: rest) a w := by
  obtain ⟨i, hi, hz0, hz1, hz2⟩ := info_parts ei23.info
  refine wpList_plain hgd fun K hKK => ?_
  have hr := run_make (P := Try.prog) w 23 5 i _ ei23.t hi hz0 .i64 .i64 (n : Int) (n : Int) (by omega) (Int.le_refl _) (by rw [hz2]; omega) (by omega)
  rw [hz1, Int.toNat_natCast, zeros_cells] at hr
  unfold Oper.wp execOp
  simp only [ho, hx, hy, Sem.run_bind, hr, Result.andThen_ok, Sem.run_pure, Oper.upon]
  exact hKK _ _ (h _ (heap_alloc_last w _) ((Ext.refl w).alloc _) (by simp))

/-- What is known of a slice of bytes. -/
def BsR (l : List UInt8) (u : Value) (w : World) : Prop := Bs w u l
theorem BsR.ext {l : List UInt8} (u : Value) (w w' : World) (hx : Ext w w') (h : BsR l u w) : BsR l u w' := Rd.ext h hx

/-! ### append(out, make([]byte, n)...) -/
theorem zeroCells_eq (n : Nat) : Builtin.zeroCells (Value.int .u8 0).cells n = row8 (Sha.zeros n) := by
  rw [← zeros_cells n, Nat.mul_one]
  simp [Builtin.zeroCells, madeCells, Value.cells]
theorem run_append_zeros (ty : TypeId) (w : World) (v : Value) (l : List UInt8) (hown : OwnB w v l) (m : Nat) (h63 : l.length + m ≤ 4294967296) :
    ∃ v' w', (Builtin.append_ #[23, 3] ty #[v, .int .i64 (m : Int)]).run Try.prog w = .ok v' w' ∧ OwnB w' v' (l ++ Sha.zeros m) ∧ Grew w w' v ∧ (v'.ownBlock = v.ownBlock ∨ ∀ g, v'.ownBlock = some g → w.heap.size ≤ g) := by
  obtain ⟨i, hi, hz0, hz1, hz2⟩ := info_parts ei23.info
  have hwr : IntKind.i64.wrap (m : Int) = m := by rw [IntKind.wrap_i64]; omega
  have n1 : ¬ ((m : Int) < 0) := by omega
  have n2 : ¬ (281474976710656 < (m : Int) * (i.bytes : Int)) := by rw [hz2]; omega
  have hlen : ((l ++ Sha.zeros m).map B8).length = (l.length + m) * 1 := by simp [Sha.zeros]
  have hOl : (l ++ Sha.zeros m).length = l.length + m := by simp [Sha.zeros]
  rcases hown.2 with ⟨rfl, hl0⟩ | ⟨g, cap, cur, rfl, hbg, hg, hnc, hcm, hcs, htake⟩
  · have hl : l = [] := List.eq_nil_of_length_eq_zero hl0
    subst hl
    by_cases hm : m = 0
    · subst hm
      refine ⟨.slice none 0 0, w, ?_, Own.nil w 5 1, World.grownBy.refl _ _, .inl rfl⟩
      have hw0 : IntKind.i64.wrap 0 = 0 := by decide
      simp [hw0, Builtin.append_, run_underlying ei23.t, run_underlying Try.underlying3, sizeOf, typeInfo, hi, asInt, asIntOf, hwr]
    · have hk0 : ¬ (m * i.size = 0) := by rw [hz1]; omega
      have h48 : ¬ (281474976710656 < Builtin.nextslicecap m 0 * i.bytes) := by rw [nextslicecap_zero (by omega), hz2]; omega
      have h63' : ¬ ((9223372036854775807 : Int) < (m : Int)) := by omega
      refine ⟨.slice (some ⟨w.heap.size, 0, none⟩) m (grownCap w m 0 5), w.drew.alloc (.cells ((row8 (Sha.zeros m)) ++ Builtin.zeroCells (Value.int .u8 0).cells (grownCap w m 0 5 - m)) 5), ?_, ?_, ?_, .inr fun g' hv => by injection hv with e1; subst e1; exact Nat.le_refl _⟩
      · simp [Builtin.append_, run_underlying ei23.t, run_underlying Try.underlying3, sizeOf, typeInfo, zeroValue, hi, hz0, asInt, asIntOf, hwr, n1, n2, hm, h48, h63', Question.forced, run_firstCells_none, newRow, grownCap, hz1, zeroCells_eq]
      · refine ⟨hlen.trans (by rw [hOl]), .inr ⟨w.heap.size, _, _, by rw [hOl]; simp, Nat.zero_le _, heap_alloc_new w.drew _, by rw [hOl]; simpa using grownCap_ge w m 0 5, grownCap_le_maxLen w m 0 5 (by unfold maxLen; simp at h63; omega), ?_, ?_⟩⟩
        · have := grownCap_ge w m 0 5
          simp only [Array.size_append, size_zeroCells, row8_size, Sha.zeros, List.length_replicate, Value.cells]
          simp
          omega
        · have e : (Sha.zeros m).length = m := by simp [Sha.zeros]
          simp [row8, e]
      · exact ⟨rfl, rfl, rfl, by simp, fun k hk _ => heap_alloc_old w.drew _ hk⟩
  · by_cases hroom : l.length + m ≤ cap
    · have hfit : l.length + (Sha.zeros m).length ≤ cur.size := by simp [Sha.zeros]; omega
      have hst := run_storeCells_at Try.prog g (l.length * 1) 5 ((Sha.zeros m).map B8) 0 cur w hg (by simpa using hfit) (one_bytes _)
      simp only [Nat.add_zero] at hst
      refine ⟨.slice (some ⟨g, 0, none⟩) (l.length + m) cap, w.setRow g (cur.toList.take (l.length * 1) ++ (Sha.zeros m).map B8 ++ cur.toList.drop (l.length * 1 + ((Sha.zeros m).map B8).length)).toArray, ?_, ?_, ?_, .inl rfl⟩
      · by_cases hm : m = 0
        · subst hm
          simp only [Nat.mul_one, Sha.zeros, List.replicate_zero, List.map_nil] at hst
          have hw0 : IntKind.i64.wrap 0 = 0 := by decide
          simp [Builtin.append_, run_underlying ei23.t, run_underlying Try.underlying3, sizeOf, typeInfo, hi, asInt, asIntOf, hw0, hroom, hnc, Addr.add_lit, hz1, Sha.zeros, hst]
        · simp only [Nat.mul_one] at hst
          have ez : Builtin.zeroCells #[Value.int .u8 0] m = ((Sha.zeros m).map B8).toArray := zeroCells_eq m
          simp [Builtin.append_, run_underlying ei23.t, run_underlying Try.underlying3, sizeOf, typeInfo, zeroValue, hz0, hi, asInt, asIntOf, hwr, n1, n2, hm, hroom, Addr.add_lit, hz1, Value.cells, ez, hst]
      · refine ⟨hlen.trans (by rw [hOl]), .inr ⟨g, cap, _, by rw [hOl], Nat.zero_le _, setRow_heap w g cur _ 5 _ hg, by rw [hOl]; exact hroom, hcm, ?_, ?_⟩⟩
        · simp only [List.size_toArray, List.length_append, List.length_take, List.length_drop, Array.length_toList, List.length_map] at hfit ⊢
          simp [Sha.zeros] at hfit ⊢
          omega
        · have : l.length * 1 = (l.map B8).length := by simp
          rw [htake, List.map_append]
          simp only [List.append_assoc]
          rw [← List.append_assoc]
          exact List.take_left' (by simp)
      · exact ⟨rfl, rfl, rfl, by simp, fun k _ hk => setRow_other w g k _ (fun e => hk (by rw [e]; rfl))⟩
    · have hm : m ≠ 0 := by omega
      have hfo := run_firstCells_some (P := Try.prog) w.drew i.size l.length ⟨g, 0, none⟩ l.length cap (l.map B8) (by rw [hz1]; simp) (by simpa using hown.cells (g := g) rfl)
      rw [hz1] at hfo
      have h48 : ¬ (281474976710656 < Builtin.nextslicecap (l.length + m) cap * i.bytes) := by
        have := growslice_fits (need := l.length + m) (old := cap) (bytes := i.bytes) (by omega) (by rw [hz2]; omega)
        omega
      have h63' : ¬ ((9223372036854775807 : Int) < (l.length : Int) + (m : Int)) := by omega
      refine ⟨.slice (some ⟨w.heap.size, 0, none⟩) (l.length + m) (grownCap w (l.length + m) cap 5), w.drew.alloc (.cells ((l.map B8).toArray ++ row8 (Sha.zeros m) ++ Builtin.zeroCells (Value.int .u8 0).cells (grownCap w (l.length + m) cap 5 - (l.length + m))) 5), ?_, ?_, ?_, .inr fun g' hv => by injection hv with e1; subst e1; exact Nat.le_refl _⟩
      · simp [Builtin.append_, run_underlying ei23.t, run_underlying Try.underlying3, sizeOf, typeInfo, zeroValue, hi, hz0, asInt, asIntOf, hwr, n1, n2, hm, hroom, h48, h63', Question.forced, hfo, newRow, grownCap, hz1, zeroCells_eq]
      · refine ⟨hlen.trans (by rw [hOl]), .inr ⟨w.heap.size, _, _, by rw [hOl], Nat.zero_le _, heap_alloc_new w.drew _, by rw [hOl]; exact grownCap_ge w _ cap 5, grownCap_le_maxLen w _ cap 5 (by unfold maxLen; omega), ?_, ?_⟩⟩
        · have := grownCap_ge w (l.length + m) cap 5
          simp only [Array.size_append, size_zeroCells, row8_size, Sha.zeros, List.length_replicate, Value.cells, List.size_toArray, List.length_map]
          simp
          omega
        · have e : (Sha.zeros m).length = m := by simp [Sha.zeros]
          simp only [row8, Array.toList_append, List.map_append]
          exact List.take_left' (by simp [e])
      · exact ⟨rfl, rfl, rfl, by simp, fun k hk _ => heap_alloc_old w.drew _ hk⟩
theorem wpList_append_zeros {ops : Array Oper} {rest : List Oper} {o : Oper} {a : Act} {w : World} {Q : Exit → Act → World → Prop} (hgd : o.guard = none)
    (s x : Operand) (ho : o.op = .call { callee := .builtin .append, args := #[s, x], argTypes := #[23, 3] }) (v : Value) (hs : a.eval s = v) {l : List UInt8} (hown : OwnB w v l)
    (m : Nat) (hx : a.eval x = .int .i64 (m : Int)) (h63 : l.length + m ≤ 4294967296)
    (hK : ∀ v' w', OwnB w' v' (l ++ Sha.zeros m) → Grew w w' v → (v'.ownBlock = v.ownBlock ∨ ∀ g, v'.ownBlock = some g → w.heap.size ≤ g) → wpList Try.prog ops Q rest (a.put o.dst v') w') : wpList Try.prog ops Q (o :: rest) a w := by
  refine wpList_plain hgd fun K hKK => ?_
  obtain ⟨v', w', hr, h2, h3, h4⟩ := run_append_zeros o.type w v l hown m h63
  unfold Oper.wp execOp
  simp only [ho, resolve, invoke, builtin, Sem.run_bind, Sem.run_pure, Result.andThen_ok, List.map_toArray, List.map_cons, List.map_nil, hs, hx, hr]
  exact hKK _ _ (hK v' w' h2 h3 h4)
end Go.Proofs.Ytapojpjmeadabaa
end

section
/- sacristanlaw02.ShaOne: two hashes side by side. -/
namespace Go.Proofs.Ytapojpjmeadabaa
open Go.RowKit
set_option linter.unusedVariables false
set_option linter.unusedSimpArgs false
attribute [local go_sem] lt_ext cell?_ext frozen?_ext shape?_ext

/-- Two Hashes of our own, apart. -/
structure Pair (w0 : World) (hb kb : Nat) (rv : Value) (m : List UInt8) (hb2 kb2 : Nat) (rv2 : Value) (m2 : List UInt8) (w : World) : Prop where
  one : OurH w0 hb kb rv m w
  two : OurH w0 hb2 kb2 rv2 m2 w
  ne : hb2 ≠ hb
  ap : ∀ g, rv.ownBlock = some g → rv2.ownBlock = some g → False
theorem Pair.swap {w0 w : World} {hb kb hb2 kb2 : Nat} {rv rv2 : Value} {m m2 : List UInt8} (h : Pair w0 hb kb rv m hb2 kb2 rv2 m2 w) : Pair w0 hb2 kb2 rv2 m2 hb kb rv m w :=
  ⟨h.two, h.one, fun e => h.ne e.symm, fun g h1 h2 => h.ap g h2 h1⟩
theorem Pair.grow {w0 w w' : World} {hb kb hb2 kb2 : Nat} {rv rv2 : Value} {m m2 : List UInt8} (h : Pair w0 hb kb rv m hb2 kb2 rv2 m2 w) (hx : Ext w w') : Pair w0 hb kb rv m hb2 kb2 rv2 m2 w' :=
  ⟨h.one.grow hx, h.two.grow hx, h.ne, h.ap⟩
theorem Pair.wrote {w0 w w' : World} {hb kb hb2 kb2 : Nat} {rv rv2 rv' : Value} {m m2 m' : List UInt8} (h : Pair w0 hb kb rv m hb2 kb2 rv2 m2 w) (hH : HashAt w' hb kb rv' m') (hc : Chg w w' (hset hb rv))
    (hf : rv'.ownBlock = rv.ownBlock ∨ ∀ g, rv'.ownBlock = some g → w.heap.size ≤ g) : Pair w0 hb kb rv' m' hb2 kb2 rv2 m2 w' := by
  have h1 := h.one.wrote hH hc hf
  refine ⟨h1, ⟨h.one.at_.other h.two.at_ h.ne h.ap hc, h1.ext, h.two.ge, h.two.fr⟩, h.ne, fun g e1 e2 => ?_⟩
  rcases hf with e | e
  · exact h.ap g (e ▸ e1) e2
  · have := e g e1
    have := h.two.at_.rlt e2
    omega
/-- A slice of slices that reads as ls. -/
def RssR (ls : List (List UInt8)) (u : Value) (w : World) : Prop := ∃ vs, Rss w u vs ls
theorem RssR.ext {ls : List (List UInt8)} (u : Value) (w w' : World) (h1 : Ext w w') (h2 : RssR ls u w) : RssR ls u w' := by
  obtain ⟨vs, h⟩ := h2
  exact ⟨vs, h.ext h1⟩
theorem Rss.three (w : World) (u u' u'' : Value) (l l' l'' : List UInt8) (h : Bs w u l) (h' : Bs w u' l') (h'' : Bs w u'' l'') : Rss (w.alloc (.cells #[u, u', u''] 23)) (.slice (some ⟨w.heap.size, 0, none⟩) 3 3) [u, u', u''] [l, l', l''] :=
  Rss.lit w [u, u', u''] [l, l', l''] _ rfl 3 rfl rfl (by simp) fun i hi => by
    have hi' : i < 3 := by simpa using hi
    rcases (show i = 0 ∨ i = 1 ∨ i = 2 by omega) with rfl | rfl | rfl
    · exact ⟨u, rfl, h⟩
    · exact ⟨u', rfl, h'⟩
    · exact ⟨u'', rfl, h''⟩
theorem Rss.none (w : World) : Rss w (.slice none 0 0) [] [] := ⟨Rd.zero (Nat.zero_le _) (fun _ => rfl), fun i hi => absurd hi (Nat.not_lt_zero _)⟩

set_option maxRecDepth 100000 in
set_option maxHeartbeats 6000000 in
theorem one_any (va vb vc : Value) (la lb lc : List UInt8) (ha : la.length ≤ 140737488355328) (hb0 : lb.length ≤ 140737488355328) (hc0 : lc.length ≤ 140737488355328) (w : World) (hA : Bs w va la) (hB : Bs w vb lb) (hC : Bs w vc lc) :
    Calls Try.prog 7 #[va, vb, vc] w fun e w' => e = .returned (.bool true) ∧ Ext w w' := by
  obtain ⟨A, cap, rfl, hcap, hcm, _, _⟩ := hA.is
  obtain ⟨A', cap', rfl, hcap', hcm', _, _⟩ := hB.is
  obtain ⟨A'', cap'', rfl, hcap'', hcm'', _, _⟩ := hC.is
  have HA := Lib.hid hA
  have HB := Lib.hid hB
  have HC := Lib.hid hC
  clear hA hB hC
  by_cases h1 : 900 < la.length + lb.length + lc.length
  · go_enter Try.func7, Try.ntmps7
    go_wp2_with (go_at_call 29; go_must (refine (known_any _).mono ?_; rintro e w1 ⟨rfl, hx1⟩))
    go_ret
    exact ⟨rfl, hx1⟩
  have T0 : True := trivial
  go_enter Try.func7, Try.ntmps7
  go_wp2_with (first | (go_at_call 32; clear T0; go_must (refine (new_any _).mono ?_; rintro e w1 ⟨hb, kb, rfl, hH1, hx1, hg1, hk1⟩; have HO1 := Lib.hid (⟨hH1, hx1, hg1, fun g hg => nomatch hg⟩ : OurH w hb kb (.slice none 0 0) [] w1); have T1 : True := trivial; clear hH1 hx1 hg1)) | (go_at_call 32; clear T1; go_must (refine (new_any _).mono ?_; rintro e w2 ⟨hb2, kb2, rfl, hH2, hx2, hg2, hk2⟩; have HP2 := Lib.hid (⟨HO1.out.grow hx2, ⟨hH2, HO1.out.ext.trans hx2, Nat.le_trans HO1.out.ext.size hg2, fun g hg => nomatch hg⟩, (by have := HO1.out.at_.lt; omega), fun g e => nomatch e⟩ : Pair w hb kb (.slice none 0 0) [] hb2 kb2 (.slice none 0 0) [] w2); have T2 : True := trivial; clear hH2 hx2 hg2)) | (go_at_call 34; clear T2; go_must (refine (hsum_any hb kb _ [] _ HP2.out.one.at_ (by decide)).mono ?_; rintro e w3 ⟨rfl, hx3⟩; have HP3 := Lib.hid (HP2.out.grow hx3); have T3 : True := trivial; clear hx3)) | (go_at_call 30; clear T3; go_must (refine (sum_any _ [] [] _ (Rss.none w3) (by decide)).mono ?_; rintro e w4 ⟨rfl, hx4⟩; rw [show ([] : List (List UInt8)).flatten = [] from rfl]; have HP4 := Lib.hid (HP3.out.grow hx4); have T4 : True := trivial; clear hx4)) | (refine wpl_v (by rfl) _ (exec_ne27 _ _ _ rfl (Sha.sum []) (Sha.sum []) rfl rfl (Sha.sum_length _) (Sha.sum_length _) _) ?_) | (go_at_call 33; clear T4; go_must (refine (write_any hb kb _ _ [] la _ HP4.out.one.at_ (Rd.ext HA.out HP4.out.one.ext) (by simp; omega)).mono ?_; rintro e w5 ⟨rfl, rv5, hH5, hc5, hf5⟩; rw [List.nil_append] at hH5; have HP5 := Lib.hid (HP4.out.wrote hH5 hc5 hf5); have T5 : True := trivial; clear hH5 hc5 hf5)) | (go_at_call 33; clear T5; go_must (refine (write_any hb2 kb2 _ _ [] lb _ HP5.out.two.at_ (Rd.ext HB.out HP5.out.one.ext) (by simp; omega)).mono ?_; rintro e w6 ⟨rfl, rv6, hH6, hc6, hf6⟩; rw [List.nil_append] at hH6; have HP6 := Lib.hid (HP5.out.swap.wrote hH6 hc6 hf6).swap; have T6 : True := trivial; clear hH6 hc6 hf6)) | (go_at_call 34; clear T6; go_must (refine (hsum_any hb kb _ la _ HP6.out.one.at_ (by omega)).mono ?_; rintro e w7 ⟨rfl, hx7⟩; have HP7 := Lib.hid (HP6.out.grow hx7); have T7 : True := trivial; clear hx7)) | (refine wpl_alloc_agg rfl 27 rfl _ zero27.1 ?_) | (refine wpl_store27 rfl _ _ rfl w7.heap.size (Sha.sum la) (Sha.zeros 32) rfl rfl (Sha.sum_length _) (by simp [Sha.zeros]) (heap_alloc_last w7 _) ?_; intro w8 h8 hu8; have H8 := Lib.hid h8; have HP8 := Lib.hid (HP7.out.grow (((Ext.refl w7).alloc _).upd_new hu8 (Nat.le_refl _))); have hs8 : w7.heap.size < w8.heap.size := (Array.getElem?_eq_some_iff.1 h8).1; clear h8 hu8) | (go_at_call 33; clear T7; go_must (refine (write_any hb kb _ _ la lc _ HP8.out.one.at_ (Rd.ext HC.out HP8.out.one.ext) (by omega)).mono ?_; rintro e w9 ⟨rfl, rv9, hH9, hc9, hf9⟩; have HP9 := Lib.hid (HP8.out.wrote hH9 hc9 hf9); have H9 := Lib.hid ((hc9.block w7.heap.size hs8 (fun e => e.elim (fun e => by have := HP7.out.one.at_.lt; omega) (fun e => by have := HP7.out.one.at_.rlt e.symm; omega))).trans H8.out); have T8 : True := trivial; have hs9 : w7.heap.size < w9.heap.size := Nat.lt_of_lt_of_le hs8 hc9.size; clear hH9 hc9 hf9)) | (go_at_call 33; clear T8; go_must (refine (write_any hb2 kb2 _ _ lb lc _ HP9.out.two.at_ (Rd.ext HC.out HP9.out.one.ext) (by omega)).mono ?_; rintro e w10 ⟨rfl, rv10, hH10, hc10, hf10⟩; have HP10 := Lib.hid (HP9.out.swap.wrote hH10 hc10 hf10).swap; have H10 := Lib.hid ((hc10.block w7.heap.size hs9 (fun e => e.elim (fun e => by have := HP7.out.two.at_.lt; omega) (fun e => by have := HP7.out.two.at_.rlt e.symm; omega))).trans H9.out); have hs10 : w7.heap.size < w10.heap.size := Nat.lt_of_lt_of_le hs9 hc10.size; clear hH10 hc10 hf10)))
  clear H8 H9 HP2 HP3 HP4 HP5 HP6 HP7 HP8 HP9 HO1
  refine wp_region_m (by kernel_rfl) (by kernel_rfl) ?_
  refine gm_x rfl rfl rfl rfl _ (fun x => exec_load27 _ rfl w7.heap.size rfl (Sha.sum la) (Sha.sum_length _) _ ((ext_heap w10 x _ hs10).trans H10.out)) ?_
  simp only [Act.put, List.setIfInBounds_toArray, List.set_cons_succ, List.set_cons_zero]
  repeat (refine gm_q rfl rfl rfl rfl (fun K hK => ?_); go_big_quiet_op; refine hK _ ?_; clear hK K)
  refine gm_v rfl rfl rfl rfl 42 rfl (RssR [la]) RssR.ext (fun x => ⟨_, _, by go_simp <;> first | exact ⟨rfl, rfl⟩ | rfl, ⟨_, Rss.one _ _ la (Rd.ext HA.out (HP10.out.one.ext.trans (ext_ext w10 x)))⟩, (Ext.refl _).alloc _⟩) ?_
  simp only [Act.put, List.setIfInBounds_toArray, List.set_cons_succ, List.set_cons_zero]
  refine gm_M [(42, RssR [la])] rfl ?_
  refine gm_co rfl [(42, RssR [la])] rfl 42 _ (by decide) (by simp) rfl 30 (Dig (Sha.sum (la))) (fun xs => rfl) (fun xs w => by simp only [fillM, Act.put, List.setIfInBounds_toArray, List.set_cons_succ, List.set_cons_zero]; go_simp) (fun x u ⟨vs, hu⟩ => by have h := sum_any u vs [la] _ hu (by simp; omega); rw [show ([la]).flatten = la by simp] at h; exact h) ?_
  simp only [Act.put, List.setIfInBounds_toArray, List.set_cons_succ, List.set_cons_zero]
  refine gm_M [(42, RssR [la])] rfl ?_
  refine gm_e rfl rfl rfl rfl _ (exec_eq27 _ _ _ rfl (Sha.sum (la)) (Sha.sum (la)) rfl rfl (Sha.sum_length _) (Sha.sum_length _)) ?_
  simp only [decide_true]
  simp only [Act.put, List.setIfInBounds_toArray, List.set_cons_succ, List.set_cons_zero]
  refine gm_M [(42, RssR [la])] rfl ?_
  repeat (refine gm_q rfl rfl rfl rfl (fun K hK => ?_); go_big_quiet_op; refine hK _ ?_; clear hK K)
  refine gm_M [(42, RssR [la])] rfl ?_
  refine gm_c rfl rfl rfl rfl 34 #[.pointer (some ⟨hb, 0, none⟩)] (fun _ => by go_simp) (Dig (Sha.sum (la ++ lc))) (fun x => hsum_any hb kb _ (la ++ lc) _ (HP10.out.one.grow (ext_ext w10 x)).at_ (by simp; omega)) ?_
  simp only [Act.put, List.setIfInBounds_toArray, List.set_cons_succ, List.set_cons_zero]
  refine gm_M [(42, RssR [la])] rfl ?_
  repeat (refine gm_q rfl rfl rfl rfl (fun K hK => ?_); go_big_quiet_op; refine hK _ ?_; clear hK K)
  refine gm_M [(42, RssR [la])] rfl ?_
  refine gm_v rfl rfl rfl rfl 50 rfl (RssR [la, lc]) RssR.ext (fun x => ⟨_, _, by go_simp <;> first | exact ⟨rfl, rfl⟩ | rfl, ⟨_, Rss.two _ _ _ la lc (Rd.ext HA.out (HP10.out.one.ext.trans (ext_ext w10 x))) (Rd.ext HC.out (HP10.out.one.ext.trans (ext_ext w10 x)))⟩, (Ext.refl _).alloc _⟩) ?_
  simp only [Act.put, List.setIfInBounds_toArray, List.set_cons_succ, List.set_cons_zero]
  refine gm_M [(50, RssR [la, lc]), (42, RssR [la])] rfl ?_
  refine gm_co rfl [(50, RssR [la, lc]), (42, RssR [la])] rfl 50 _ (by decide) (by simp) rfl 30 (Dig (Sha.sum (la ++ lc))) (fun xs => rfl) (fun xs w => by simp only [fillM, Act.put, List.setIfInBounds_toArray, List.set_cons_succ, List.set_cons_zero]; go_simp) (fun x u ⟨vs, hu⟩ => by have h := sum_any u vs [la, lc] _ hu (by simp; omega); rw [show ([la, lc]).flatten = la ++ lc by simp] at h; exact h) ?_
  simp only [Act.put, List.setIfInBounds_toArray, List.set_cons_succ, List.set_cons_zero]
  refine gm_M [(50, RssR [la, lc]), (42, RssR [la])] rfl ?_
  refine gm_e rfl rfl rfl rfl _ (exec_eq27 _ _ _ rfl (Sha.sum (la ++ lc)) (Sha.sum (la ++ lc)) rfl rfl (Sha.sum_length _) (Sha.sum_length _)) ?_
  simp only [decide_true]
  simp only [Act.put, List.setIfInBounds_toArray, List.set_cons_succ, List.set_cons_zero]
  refine gm_M [(50, RssR [la, lc]), (42, RssR [la])] rfl ?_
  repeat (refine gm_q rfl rfl rfl rfl (fun K hK => ?_); go_big_quiet_op; refine hK _ ?_; clear hK K)
  refine gm_M [(50, RssR [la, lc]), (42, RssR [la])] rfl ?_
  refine gm_c rfl rfl rfl rfl 34 #[.pointer (some ⟨hb2, 0, none⟩)] (fun _ => by go_simp) (Dig (Sha.sum (lb ++ lc))) (fun x => hsum_any hb2 kb2 _ (lb ++ lc) _ (HP10.out.two.grow (ext_ext w10 x)).at_ (by simp; omega)) ?_
  simp only [Act.put, List.setIfInBounds_toArray, List.set_cons_succ, List.set_cons_zero]
  refine gm_M [(50, RssR [la, lc]), (42, RssR [la])] rfl ?_
  repeat (refine gm_q rfl rfl rfl rfl (fun K hK => ?_); go_big_quiet_op; refine hK _ ?_; clear hK K)
  refine gm_M [(50, RssR [la, lc]), (42, RssR [la])] rfl ?_
  refine gm_v rfl rfl rfl rfl 59 rfl (RssR [lb, lc]) RssR.ext (fun x => ⟨_, _, by go_simp <;> first | exact ⟨rfl, rfl⟩ | rfl, ⟨_, Rss.two _ _ _ lb lc (Rd.ext HB.out (HP10.out.one.ext.trans (ext_ext w10 x))) (Rd.ext HC.out (HP10.out.one.ext.trans (ext_ext w10 x)))⟩, (Ext.refl _).alloc _⟩) ?_
  simp only [Act.put, List.setIfInBounds_toArray, List.set_cons_succ, List.set_cons_zero]
  refine gm_M [(59, RssR [lb, lc]), (50, RssR [la, lc]), (42, RssR [la])] rfl ?_
  refine gm_co rfl [(59, RssR [lb, lc]), (50, RssR [la, lc]), (42, RssR [la])] rfl 59 _ (by decide) (by simp) rfl 30 (Dig (Sha.sum (lb ++ lc))) (fun xs => rfl) (fun xs w => by simp only [fillM, Act.put, List.setIfInBounds_toArray, List.set_cons_succ, List.set_cons_zero]; go_simp) (fun x u ⟨vs, hu⟩ => by have h := sum_any u vs [lb, lc] _ hu (by simp; omega); rw [show ([lb, lc]).flatten = lb ++ lc by simp] at h; exact h) ?_
  simp only [Act.put, List.setIfInBounds_toArray, List.set_cons_succ, List.set_cons_zero]
  refine gm_M [(59, RssR [lb, lc]), (50, RssR [la, lc]), (42, RssR [la])] rfl ?_
  refine gm_e rfl rfl rfl rfl _ (exec_eq27 _ _ _ rfl (Sha.sum (lb ++ lc)) (Sha.sum (lb ++ lc)) rfl rfl (Sha.sum_length _) (Sha.sum_length _)) ?_
  simp only [decide_true]
  simp only [Act.put, List.setIfInBounds_toArray, List.set_cons_succ, List.set_cons_zero]
  refine gm_M [(59, RssR [lb, lc]), (50, RssR [la, lc]), (42, RssR [la])] rfl ?_
  repeat (refine gm_q rfl rfl rfl rfl (fun K hK => ?_); go_big_quiet_op; refine hK _ ?_; clear hK K)
  refine gm_M [(59, RssR [lb, lc]), (50, RssR [la, lc]), (42, RssR [la])] rfl ?_
  refine gm_v rfl rfl rfl rfl 66 rfl (RssR [la, [], lc]) RssR.ext (fun x => ⟨_, _, by go_simp <;> first | exact ⟨rfl, rfl⟩ | rfl, ⟨_, Rss.three _ _ _ _ la [] lc (Rd.ext HA.out (HP10.out.one.ext.trans (ext_ext w10 x))) (Rd.zero (Nat.zero_le _) (fun _ => rfl)) (Rd.ext HC.out (HP10.out.one.ext.trans (ext_ext w10 x)))⟩, (Ext.refl _).alloc _⟩) ?_
  simp only [Act.put, List.setIfInBounds_toArray, List.set_cons_succ, List.set_cons_zero]
  refine gm_M [(66, RssR [la, [], lc]), (59, RssR [lb, lc]), (50, RssR [la, lc]), (42, RssR [la])] rfl ?_
  refine gm_co rfl [(66, RssR [la, [], lc]), (59, RssR [lb, lc]), (50, RssR [la, lc]), (42, RssR [la])] rfl 66 _ (by decide) (by simp) rfl 30 (Dig (Sha.sum (la ++ lc))) (fun xs => rfl) (fun xs w => by simp only [fillM, Act.put, List.setIfInBounds_toArray, List.set_cons_succ, List.set_cons_zero]; go_simp) (fun x u ⟨vs, hu⟩ => by have h := sum_any u vs [la, [], lc] _ hu (by simp; omega); rw [show ([la, [], lc]).flatten = la ++ lc by simp] at h; exact h) ?_
  simp only [Act.put, List.setIfInBounds_toArray, List.set_cons_succ, List.set_cons_zero]
  refine gm_M [(66, RssR [la, [], lc]), (59, RssR [lb, lc]), (50, RssR [la, lc]), (42, RssR [la])] rfl ?_
  repeat (refine gm_q rfl rfl rfl rfl (fun K hK => ?_); go_big_quiet_op; refine hK _ ?_; clear hK K)
  refine gm_M [(66, RssR [la, [], lc]), (59, RssR [lb, lc]), (50, RssR [la, lc]), (42, RssR [la])] rfl ?_
  refine gm_v rfl rfl rfl rfl 70 rfl (RssR [la, lc]) RssR.ext (fun x => ⟨_, _, by go_simp <;> first | exact ⟨rfl, rfl⟩ | rfl, ⟨_, Rss.two _ _ _ la lc (Rd.ext HA.out (HP10.out.one.ext.trans (ext_ext w10 x))) (Rd.ext HC.out (HP10.out.one.ext.trans (ext_ext w10 x)))⟩, (Ext.refl _).alloc _⟩) ?_
  simp only [Act.put, List.setIfInBounds_toArray, List.set_cons_succ, List.set_cons_zero]
  refine gm_M [(70, RssR [la, lc]), (66, RssR [la, [], lc]), (59, RssR [lb, lc]), (50, RssR [la, lc]), (42, RssR [la])] rfl ?_
  refine gm_co rfl [(70, RssR [la, lc]), (66, RssR [la, [], lc]), (59, RssR [lb, lc]), (50, RssR [la, lc]), (42, RssR [la])] rfl 70 _ (by decide) (by simp) rfl 30 (Dig (Sha.sum (la ++ lc))) (fun xs => rfl) (fun xs w => by simp only [fillM, Act.put, List.setIfInBounds_toArray, List.set_cons_succ, List.set_cons_zero]; go_simp) (fun x u ⟨vs, hu⟩ => by have h := sum_any u vs [la, lc] _ hu (by simp; omega); rw [show ([la, lc]).flatten = la ++ lc by simp] at h; exact h) ?_
  simp only [Act.put, List.setIfInBounds_toArray, List.set_cons_succ, List.set_cons_zero]
  refine gm_M [(70, RssR [la, lc]), (66, RssR [la, [], lc]), (59, RssR [lb, lc]), (50, RssR [la, lc]), (42, RssR [la])] rfl ?_
  refine gm_e rfl rfl rfl rfl _ (exec_eq27 _ _ _ rfl (Sha.sum (la ++ lc)) (Sha.sum (la ++ lc)) rfl rfl (Sha.sum_length _) (Sha.sum_length _)) ?_
  simp only [decide_true]
  simp only [Act.put, List.setIfInBounds_toArray, List.set_cons_succ, List.set_cons_zero]
  refine gm_M [(70, RssR [la, lc]), (66, RssR [la, [], lc]), (59, RssR [lb, lc]), (50, RssR [la, lc]), (42, RssR [la])] rfl ?_
  repeat (refine gm_q rfl rfl rfl rfl (fun K hK => ?_); go_big_quiet_op; refine hK _ ?_; clear hK K)
  refine gm_M [(70, RssR [la, lc]), (66, RssR [la, [], lc]), (59, RssR [lb, lc]), (50, RssR [la, lc]), (42, RssR [la])] rfl ?_
  refine gm_c rfl rfl rfl rfl 29 #[] (fun _ => by go_simp) (.bool true) (fun x => known_any _) ?_
  simp only [Act.put, List.setIfInBounds_toArray, List.set_cons_succ, List.set_cons_zero]
  refine gm_M [(70, RssR [la, lc]), (66, RssR [la, [], lc]), (59, RssR [lb, lc]), (50, RssR [la, lc]), (42, RssR [la])] rfl ?_
  repeat (refine gm_q rfl rfl rfl rfl (fun K hK => ?_); go_big_quiet_op; refine hK _ ?_; clear hK K)
  refine gm_M [(70, RssR [la, lc]), (66, RssR [la, [], lc]), (59, RssR [lb, lc]), (50, RssR [la, lc]), (42, RssR [la])] rfl ?_
  refine gm_end_at rfl [(70, RssR [la, lc]), (66, RssR [la, [], lc]), (59, RssR [lb, lc]), (50, RssR [la, lc]), (42, RssR [la])] rfl (fun xs x hk => ?_)
  clear hk
  simp only [fillM, Act.put, List.setIfInBounds_toArray, List.set_cons_succ, List.set_cons_zero]
  go_wp2
  go_ret
  exact ⟨rfl, HP10.out.one.ext.trans (ext_ext w10 x)⟩
end Go.Proofs.Ytapojpjmeadabaa
end

section
/- sacristanlaw02.ShaPads: bytes of one kind at each length about a block's end. -/
namespace Go.Proofs.Ytapojpjmeadabaa
open Go.RowKit
set_option linter.unusedVariables false
set_option linter.unusedSimpArgs false
attribute [local go_sem] lt_ext cell?_ext frozen?_ext shape?_ext

theorem set_next (c : UInt8) (k j : Nat) (hj : j < k) : (List.replicate j c ++ Sha.zeros (k - j)).set j c = List.replicate (j + 1) c ++ Sha.zeros (k - (j + 1)) := by
  rw [List.set_append_right _ _ (by simp)]
  obtain ⟨m, hm⟩ : ∃ m, k - j = m + 1 := ⟨k - j - 1, by omega⟩
  rw [hm, show k - (j + 1) = m by omega]
  rw [Sha.zeros, List.replicate_succ (n := m), List.replicate_succ' (n := j)]
  simp [Sha.zeros]
set_option maxRecDepth 100000 in
set_option maxHeartbeats 2000000 in
theorem pads_any (c : UInt8) (n : Nat) (hn : n < 256) (w : World) :
    Calls Try.prog 8 #[B8 c, .int .u8 (n : Int)] w fun e w' => e = .returned (.bool true) ∧ Ext w w' := by
  obtain ⟨k, hk, hk0, hk1⟩ : ∃ k : Nat, 50 + (n : Int) % 90 = (k : Int) ∧ 50 ≤ k ∧ k < 140 := ⟨50 + n % 90, by omega, by omega, by omega⟩
  go_enter Try.func8, Try.ntmps8
  go_wp2_with (refine wpl_make23 rfl _ _ rfl k rfl rfl (by omega) ?_; intro w1 h1 hx1 hs1; have H1 := Lib.hid h1; have HX1 := Lib.hid hx1; have HS1 := Lib.hid hs1; clear h1 hx1 hs1)
  clear hk
  go_loopw [7] (fun i wr => ∃ j : Nat, j ≤ k ∧ i = .int .i64 j ∧ Blk wr w.heap.size 5 (List.replicate j c ++ Sha.zeros (k - j)) ∧ Ext w wr) (fun i _ => k - (intOf i).toNat)
  case atStart => exact ⟨0, by omega, rfl, by simpa using H1.out, HX1.out⟩
  case round =>
    obtain ⟨j, hj, rfl, hB, hX⟩ := hrel
    have hll : (List.replicate j c ++ Sha.zeros (k - j)).length = k := by simp [Sha.zeros]; omega
    by_cases hlt : j < k
    · have hcell := hB.cell j (by omega)
      have hf := hB.frozen j
      have hbl := hB.lt
      have HB := Lib.hid hB
      have HX := Lib.hid hX
      clear hB hX hll
      go_wp2
      go_roundw
      case rel =>
        refine ⟨j + 1, by omega, by go_num, ?_, Ext.setCell_new HX.out trivial (Nat.le_refl _) ⟩
        have := HB.out.set j c
        rw [set_next c k j hlt] at this
        exact this
      case measure => simp [intOf]; omega
    · obtain rfl : j = k := by omega
      rw [Nat.sub_self, show Sha.zeros 0 = [] from rfl, List.append_nil] at hB hll
      generalize List.replicate j c = l at hB hll
      have HB := Lib.hid hB
      have HX := Lib.hid hX
      have HL := Lib.hid hll
      have HS : Hid (Bs wr (.slice (some ⟨w.heap.size, 0, none⟩) j j) l) := Lib.hid (hB.whole j j hll.symm (Nat.le_refl _) (by omega))
      have HSa : Hid (Bs wr (.slice (some ⟨w.heap.size, 0, none⟩) (j / 2) j) (l.take (j / 2))) := Lib.hid (hB.bs 0 (j / 2) j (by omega) (by omega) (by omega))
      have HSb : Hid (Bs wr (.slice (some ⟨w.heap.size, j / 2, none⟩) (j - j / 2) (j - j / 2)) (l.drop (j / 2))) := Lib.hid (by
        have h := hB.bs (j / 2) (j - j / 2) (j - j / 2) (by omega) (by omega) (by omega)
        rw [List.take_of_length_le (l := l.drop (j / 2)) (by simp; omega)] at h
        exact h)
      have HJ : Hid (l.take (j / 2) ++ l.drop (j / 2) = l) := Lib.hid (List.take_append_drop _ _)
      have hn1 : w.heap.size < wr.heap.size := hB.lt
      have hlj : l.length ≤ 139 := by omega
      have T0 : True := trivial
      clear hB hX hll hlt hj H1 HX1 HS1
      go_wp2_with (first | (go_at_call 32; clear T0; go_must (refine (new_any _).mono ?_; rintro e w2 ⟨hb, kb, rfl, hH2, hx2, hg2, hk2⟩; have HO2 := Lib.hid (⟨hH2, hx2, hg2, fun g hg => nomatch hg⟩ : OurH wr hb kb (.slice none 0 0) [] w2); have T1 : True := trivial; clear hH2 hx2 hg2)) | (go_at_call 33; clear T1; go_must (refine (write_any hb kb _ _ [] (l.take (j / 2)) _ HO2.out.at_ (Rd.ext HSa.out HO2.out.ext) (by simp; omega)).mono ?_; rintro e w3 ⟨rfl, rv3, hH3, hc3, hf3⟩; rw [List.nil_append] at hH3; have HO3 := Lib.hid (HO2.out.wrote hH3 hc3 hf3); have T2 : True := trivial; clear hH3 hc3 hf3)) | (go_at_call 33; clear T2; go_must (refine (write_any hb kb _ _ _ (l.drop (j / 2)) _ HO3.out.at_ (Rd.ext HSb.out HO3.out.ext) (by simp; omega)).mono ?_; rintro e w4 ⟨rfl, rv4, hH4, hc4, hf4⟩; rw [HJ.out] at hH4; have HO4 := Lib.hid (HO3.out.wrote hH4 hc4 hf4); have T3 : True := trivial; clear hH4 hc4 hf4)) | (go_at_call 31; go_must (refine (refsum_any _ l (by have := HL.out; omega) _ (Rd.ext HS.out HO4.out.ext)).mono ?_; rintro e w5 ⟨rfl, hx5⟩; have HO5 := Lib.hid (HO4.out.grow hx5); clear hx5)) | (refine wpl_alloc_agg rfl 27 rfl _ zero27.1 ?_) | (refine wpl_store27 rfl _ _ rfl w5.heap.size (Sha.sum l) (Sha.zeros 32) rfl rfl (Sha.sum_length _) (by simp [Sha.zeros]) (heap_alloc_last w5 _) ?_; intro w6 h6 hu6; have H6 := Lib.hid h6; have HO6 := Lib.hid (HO5.out.grow (((Ext.refl w5).alloc _).upd_new hu6 (Nat.le_refl _))); have hs6 : w5.heap.size < w6.heap.size := (Array.getElem?_eq_some_iff.1 h6).1; clear h6 hu6))
      refine wp_region_m (by kernel_rfl) (by kernel_rfl) ?_; try simp only [Act.put, List.setIfInBounds_toArray, List.set_cons_succ, List.set_cons_zero]
      repeat (refine gq rfl rfl rfl rfl (fun K hK => ?_); go_big_quiet_op; refine hK _ ?_; clear hK K)
      refine gc rfl rfl rfl rfl 34 #[.pointer (some ⟨hb, 0, none⟩)] (fun _ => by go_simp) (Dig (Sha.sum l)) (fun x => hsum_any hb kb _ l _ (HO6.out.grow (ext_ext w6 x)).at_ (by have := HL.out; omega)) ?_
      simp only [Act.put, List.setIfInBounds_toArray, List.set_cons_succ, List.set_cons_zero]
      refine gx rfl rfl rfl rfl _ (fun x => exec_load27 _ rfl w5.heap.size rfl (Sha.sum l) (Sha.sum_length _) _ ((ext_heap w6 x _ hs6).trans H6.out)) ?_
      simp only [Act.put, List.setIfInBounds_toArray, List.set_cons_succ, List.set_cons_zero]
      refine ge rfl rfl rfl rfl _ (exec_eq27 _ _ _ rfl (Sha.sum l) (Sha.sum l) rfl rfl (Sha.sum_length _) (Sha.sum_length _)) ?_
      simp only [decide_true]
      simp only [Act.put, List.setIfInBounds_toArray, List.set_cons_succ, List.set_cons_zero]
      repeat (refine gq rfl rfl rfl rfl (fun K hK => ?_); go_big_quiet_op; refine hK _ ?_; clear hK K)
      refine gv rfl rfl rfl rfl 46 rfl (RssR [l]) RssR.ext (fun x => ⟨_, _, by go_simp <;> first | exact ⟨rfl, rfl⟩ | rfl, ⟨_, Rss.one _ _ l (Rd.ext HS.out (HO6.out.ext.trans (ext_ext w6 x)))⟩, (Ext.refl _).alloc _⟩) ?_
      simp only [Act.put, List.setIfInBounds_toArray, List.set_cons_succ, List.set_cons_zero]
      refine gcx rfl rfl 30 (fun xs => #[xs 46]) (Dig (Sha.sum l)) (fun xs => rfl) (fun xs w => by simp only [fillM, Act.put, List.setIfInBounds_toArray, List.set_cons_succ, List.set_cons_zero]; go_simp) (fun xs x hk => by obtain ⟨vs, hu⟩ := hk 46 (by decide) (by simp) _ rfl; have h := sum_any _ vs [l] _ hu (by have := HL.out; simp; omega); rw [show ([l]).flatten = l by simp] at h; exact h) ?_
      simp only [Act.put, List.setIfInBounds_toArray, List.set_cons_succ, List.set_cons_zero]
      refine gx rfl rfl rfl rfl _ (fun x => exec_load27 _ rfl w5.heap.size rfl (Sha.sum l) (Sha.sum_length _) _ ((ext_heap w6 x _ hs6).trans H6.out)) ?_
      simp only [Act.put, List.setIfInBounds_toArray, List.set_cons_succ, List.set_cons_zero]
      refine ge rfl rfl rfl rfl _ (exec_eq27 _ _ _ rfl (Sha.sum l) (Sha.sum l) rfl rfl (Sha.sum_length _) (Sha.sum_length _)) ?_
      simp only [decide_true]
      simp only [Act.put, List.setIfInBounds_toArray, List.set_cons_succ, List.set_cons_zero]
      repeat (refine gq rfl rfl rfl rfl (fun K hK => ?_); go_big_quiet_op; refine hK _ ?_; clear hK K)
      refine gc rfl rfl rfl rfl 29 #[] (fun _ => by go_simp) (.bool true) (fun x => known_any _) ?_
      simp only [Act.put, List.setIfInBounds_toArray, List.set_cons_succ, List.set_cons_zero]
      repeat (refine gq rfl rfl rfl rfl (fun K hK => ?_); go_big_quiet_op; refine hK _ ?_; clear hK K)
      refine gm_end_at rfl [(46, RssR [l])] rfl (fun xs x hk => ?_)
      clear hk
      simp only [fillM, Act.put, List.setIfInBounds_toArray, List.set_cons_succ, List.set_cons_zero]
      go_wp2
      go_ret
      exact ⟨rfl, HX.out.trans (HO6.out.ext.trans (ext_ext w6 x))⟩
end Go.Proofs.Ytapojpjmeadabaa
end

section
/- sacristanlaw02.ShaSums, ShaSteps: the sum is that of the chapter. -/
namespace Go.Proofs.Ytapojpjmeadabaa
open Go.RowKit
set_option linter.unusedVariables false
set_option linter.unusedSimpArgs false
attribute [local go_sem] lt_ext cell?_ext frozen?_ext shape?_ext

theorem join_fl (fl : List UInt8) (lv : Value) (vs : List Value) (ls : List (List UInt8)) (w : World) (hf : Hid (ls.flatten = fl)) (hL : Rss w lv vs ls) (hle : fl.length ≤ 4294967296) :
    Calls Try.prog 28 #[lv] w fun e w' => ∃ v, e = .returned v ∧ NewB w v fl w' := by
  have h := hf.out
  subst h
  exact join_any lv vs ls w hL hle
theorem sum_fl (fl : List UInt8) (lv : Value) (vs : List Value) (ls : List (List UInt8)) (w : World) (hf : Hid (ls.flatten = fl)) (hL : Rss w lv vs ls) (hle : fl.length ≤ 2147483648) :
    Calls Try.prog 30 #[lv] w fun e w' => e = .returned (Dig (Sha.sum fl)) ∧ Ext w w' := by
  have h := hf.out
  subst h
  exact sum_any lv vs ls w hL hle
set_option maxRecDepth 100000 in
set_option maxHeartbeats 2000000 in
theorem sums_of (fl : List UInt8) (lv : Value) (vs : List Value) (ls : List (List UInt8)) (w : World) (hf : Hid (ls.flatten = fl)) (hL : Rss w lv vs ls) (hle : fl.length ≤ 1048576) :
    Calls Try.prog 3 #[lv] w fun e w' => e = .returned (.bool true) ∧ Ext w w' := by
  obtain ⟨A, cap, rfl, hcap, hcm, _, _⟩ := hL.rd.is
  have hlm : ls.length ≤ maxLen := Nat.le_trans hcap hcm
  unfold maxLen at hlm
  have HL := Lib.hid hL
  clear hL
  by_cases h1 : 1500 < fl.length
  · go_enter Try.func3, Try.ntmps3
    go_wp2_with (first | (go_at_call 28; go_must (refine (join_fl fl _ vs ls _ hf HL.out (by omega)).mono ?_; rintro e w1 ⟨v, rfl, hn⟩; obtain ⟨A1, cap1, rfl, hcap1, hcm1, _, _⟩ := hn.bs.is; have HX1 := Lib.hid hn.ext; clear hn)) | (go_at_call 29; go_must (refine (known_any _).mono ?_; rintro e w2 ⟨rfl, hx2⟩; have HX2 := Lib.hid (HX1.out.trans hx2); clear hx2)))
    go_ret
    exact ⟨rfl, HX2.out⟩
  by_cases h2 : 100 < ls.length
  · go_enter Try.func3, Try.ntmps3
    go_wp2_with (first | (go_at_call 28; go_must (refine (join_fl fl _ vs ls _ hf HL.out (by omega)).mono ?_; rintro e w1 ⟨v, rfl, hn⟩; obtain ⟨A1, cap1, rfl, hcap1, hcm1, _, _⟩ := hn.bs.is; have HX1 := Lib.hid hn.ext; clear hn)) | (go_at_call 29; go_must (refine (known_any _).mono ?_; rintro e w2 ⟨rfl, hx2⟩; have HX2 := Lib.hid (HX1.out.trans hx2); clear hx2)))
    go_ret
    exact ⟨rfl, HX2.out⟩
  go_enter Try.func3, Try.ntmps3
  go_wp2_with (first | (go_at_call 28; go_must (refine (join_fl fl _ vs ls _ hf HL.out (by omega)).mono ?_; rintro e w1 ⟨v, rfl, hn⟩; obtain ⟨A1, cap1, rfl, hcap1, hcm1, _, _⟩ := hn.bs.is; have HN1 := Lib.hid hn; clear hn)) | (go_at_call 30; go_must (refine (sum_fl fl _ vs ls _ hf (HL.out.ext HN1.out.ext) (by omega)).mono ?_; rintro e w2 ⟨rfl, hx2⟩; have HN2 := Lib.hid (HN1.out.grow hx2); clear hx2)) | (go_at_call 31; go_must (refine (refsum_any _ fl (by omega) _ HN2.out.bs).mono ?_; rintro e w3 ⟨rfl, hx3⟩; have HN3 := Lib.hid (HN2.out.grow hx3); clear hx3)) | (refine wpl_v (by rfl) _ (exec_eq27 _ _ _ rfl (Sha.sum fl) (Sha.sum fl) rfl rfl (Sha.sum_length _) (Sha.sum_length _) _) ?_) | (go_at_call 29; go_must (refine (known_any _).mono ?_; rintro e w4 ⟨rfl, hx4⟩; have HX4 := Lib.hid (HN3.out.ext.trans hx4); clear hx4)))
  go_ret
  exact ⟨rfl, HX4.out⟩
theorem sums_any (lv : Value) (vs : List Value) (ls : List (List UInt8)) (w : World) (hL : Rss w lv vs ls) (hle : ls.flatten.length ≤ 1048576) :
    Calls Try.prog 3 #[lv] w fun e w' => e = .returned (.bool true) ∧ Ext w w' := sums_of ls.flatten lv vs ls w (Lib.hid rfl) hL hle

theorem rss_take {w : World} {b o n cap : Nat} {vs : List Value} {ls : List (List UInt8)} (h : Rss w (.slice (some ⟨b, o, none⟩) n cap) vs ls) (k : Nat) (hk : k ≤ ls.length) :
    Rss w (.slice (some ⟨b, o, none⟩) k cap) (vs.take k) (ls.take k) := by
  obtain ⟨A, cap', hv, h1, h2, h3, h4⟩ := h.rd.is
  injection hv with e1 e2 e3
  subst e2; subst e3
  have hlen : (ls.take k).length = k := by simp; omega
  have hvl : vs.length = ls.length := by have := h.rd.len; omega
  refine ⟨?_, fun i hi => ?_⟩
  · rw [hlen]
    refine ⟨by simp; omega, _, cap, rfl, by omega, h2, (fun e => nomatch e), fun h0 => ?_⟩
    obtain ⟨b', o', e, hb, hc⟩ := h4 (by omega)
    rw [← e1] at e
    exact ⟨b', o', e, hb, fun j u hj => hc j u (by rw [List.getElem?_take] at hj; split at hj; exact hj; cases hj)⟩
  · rw [hlen] at hi
    obtain ⟨u, hu, hb⟩ := h.each i (by omega)
    refine ⟨u, by rw [List.getElem?_take, if_pos hi]; exact hu, ?_⟩
    have e : (ls.take k).getD i [] = ls.getD i [] := by simp [List.getD, List.getElem?_take, hi]
    rw [e]
    exact hb
set_option maxRecDepth 100000 in
set_option maxHeartbeats 2000000 in
theorem steps_of (fl : List UInt8) (lv : Value) (vs : List Value) (ls : List (List UInt8)) (w : World) (hf : Hid (ls.flatten = fl)) (hL : Rss w lv vs ls) (hle : fl.length ≤ 1048576) :
    Calls Try.prog 4 #[lv] w fun e w' => e = .returned (.bool true) ∧ Ext w w' := by
  obtain ⟨A, cap, rfl, hcap, hcm, _, _⟩ := hL.rd.is
  have hlm : ls.length ≤ maxLen := Nat.le_trans hcap hcm
  unfold maxLen at hlm hcm
  have HL := Lib.hid hL
  clear hL
  by_cases h1 : 600 < fl.length
  · go_enter Try.func4, Try.ntmps4
    go_wp2_with (first | (go_at_call 28; go_must (refine (join_fl fl _ vs ls _ hf HL.out (by omega)).mono ?_; rintro e w1 ⟨v, rfl, hn⟩; obtain ⟨A1, cap1, rfl, hcap1, hcm1, _, _⟩ := hn.bs.is; have HX1 := Lib.hid hn.ext; clear hn)) | (go_at_call 29; go_must (refine (known_any _).mono ?_; rintro e w2 ⟨rfl, hx2⟩; have HX2 := Lib.hid (HX1.out.trans hx2); clear hx2)))
    go_ret
    exact ⟨rfl, HX2.out⟩
  by_cases h2 : 20 < ls.length
  · go_enter Try.func4, Try.ntmps4
    go_wp2_with (first | (go_at_call 28; go_must (refine (join_fl fl _ vs ls _ hf HL.out (by omega)).mono ?_; rintro e w1 ⟨v, rfl, hn⟩; obtain ⟨A1, cap1, rfl, hcap1, hcm1, _, _⟩ := hn.bs.is; have HX1 := Lib.hid hn.ext; clear hn)) | (go_at_call 29; go_must (refine (known_any _).mono ?_; rintro e w2 ⟨rfl, hx2⟩; have HX2 := Lib.hid (HX1.out.trans hx2); clear hx2)))
    go_ret
    exact ⟨rfl, HX2.out⟩
  go_enter Try.func4, Try.ntmps4
  go_wp2_with (first | (go_at_call 28; go_must (refine (join_fl fl _ vs ls _ hf HL.out (by omega)).mono ?_; rintro e w1 ⟨v, rfl, hn⟩; obtain ⟨A1, cap1, rfl, hcap1, hcm1, _, _⟩ := hn.bs.is; have HX1 := Lib.hid hn.ext; clear hn)) | (go_at_call 32; go_must (refine (new_any _).mono ?_; rintro e w2 ⟨hb, kb, rfl, hH2, hx2, hg2, hk2⟩; have HO2 := Lib.hid (⟨hH2, HX1.out.trans hx2, Nat.le_trans HX1.out.size hg2, fun g hg => nomatch hg⟩ : OurH w hb kb (.slice none 0 0) [] w2); clear hH2 hx2 hg2)))
  go_loopw [4] (fun i wr => ∃ (k : Nat) (rv : Value), k ≤ ls.length ∧ i = .int .i64 k ∧ OurH w hb kb rv (ls.take k).flatten wr) (fun i _ => ls.length - (intOf i).toNat)
  case atStart => exact ⟨0, .slice none 0 0, by omega, rfl, HO2.out⟩
  case round =>
    obtain ⟨k, rv, hk, rfl, hour⟩ := hrel
    have hx := hour.ext
    have hfl := flat_take_le ls (k + 1)
    rw [hf.out] at hfl
    by_cases hlt : k < ls.length
    · obtain ⟨b, o, cap', hA, _, _, hbl, hcell⟩ := HL.out.rd.pos (by omega)
      injection hA with hA1 hA2 hA3
      subst hA1
      subst hA3
      obtain ⟨u, hu, hub⟩ := HL.out.each k hlt
      have hc := (hx.cell b (o + k) hbl).trans (hcell k u hu)
      have hbw : b < wr.heap.size := Nat.lt_of_lt_of_le hbl hx.size
      have HU := Lib.hid (Rd.ext hub hx)
      have HO := Lib.hid hour
      obtain ⟨p, hp⟩ : ∃ p, (ls.take k).flatten = p := ⟨_, rfl⟩
      obtain ⟨q, hq⟩ : ∃ q, (ls.take (k + 1)).flatten = q := ⟨_, rfl⟩
      have hpq : p ++ ls.getD k [] = q := by rw [← hp, ← hq, flat_take_succ ls k hlt]
      have hpl : p.length + (ls.getD k []).length ≤ 1048576 := by rw [← List.length_append, hpq, ← hq]; omega
      have hql : q.length ≤ 1048576 := by rw [← hq]; omega
      rw [hp] at HO
      have HPQ := Lib.hid hpq
      have HQ := Lib.hid hq
      have HT := Lib.hid (rss_take HL.out (k + 1) (by omega))
      have hk0 : (0 : Int) ≤ (k : Int) + 1 := by omega
      have hk1 : (k : Int) + 1 ≤ (cap : Int) := by omega
      clear hour hub hu hcell hp hpq hq hfl HO2 hx
      go_wp2_with (go_at_call 33; go_must (refine (write_any hb kb rv _ p (ls.getD k []) _ HO.out.at_ HU.out (by omega)).mono ?_; rintro e w3 ⟨rfl, rv3, hH3, hc3, hf3⟩; have HO3 := Lib.hid (HO.out.wrote hH3 hc3 hf3); rw [HPQ.out] at HO3; clear hH3 hc3 hf3))
      refine wp_region_m (by kernel_rfl) (by kernel_rfl) ?_; try simp only [Act.put, List.setIfInBounds_toArray, List.set_cons_succ, List.set_cons_zero]
      repeat (refine gq rfl rfl rfl rfl (fun K hK => ?_); go_big_quiet_op; refine hK _ ?_; clear hK K)
      refine gc rfl rfl rfl rfl 34 #[.pointer (some ⟨hb, 0, none⟩)] (fun _ => by go_simp) (Dig (Sha.sum q)) (fun x => hsum_any hb kb _ q _ (HO3.out.grow (ext_ext w3 x)).at_ (by omega)) ?_
      simp only [Act.put, List.setIfInBounds_toArray, List.set_cons_succ, List.set_cons_zero]
      repeat (refine gq rfl rfl rfl rfl (fun K hK => ?_); go_big_quiet_op; refine hK _ ?_; clear hK K)
      refine gcp rfl rfl rfl rfl 28 #[.slice (some ⟨b, o, none⟩) (k + 1) cap] (fun _ => by go_simp) 34 rfl (BsR q) BsR.ext (fun x => (join_fl q _ _ _ _ HQ (HT.out.ext (HO3.out.ext.trans (ext_ext w3 x))) (by omega)).mono (fun e w' ⟨v, he, hn⟩ => ⟨v, he, hn.bs, hn.ext⟩)) ?_
      simp only [Act.put, List.setIfInBounds_toArray, List.set_cons_succ, List.set_cons_zero]
      refine gcx rfl rfl 31 (fun xs => #[xs 34]) (Dig (Sha.sum q)) (fun xs => rfl) (fun xs w => by simp only [fillM, Act.put, List.setIfInBounds_toArray, List.set_cons_succ, List.set_cons_zero]; go_simp) (fun xs x hk => refsum_any _ q (by omega) _ (hk 34 (by decide) (by simp) _ rfl)) ?_
      simp only [Act.put, List.setIfInBounds_toArray, List.set_cons_succ, List.set_cons_zero]
      refine ge rfl rfl rfl rfl _ (exec_ne27 _ _ _ rfl (Sha.sum q) (Sha.sum q) rfl rfl (Sha.sum_length _) (Sha.sum_length _)) ?_
      simp only [decide_true]
      simp only [Act.put, List.setIfInBounds_toArray, List.set_cons_succ, List.set_cons_zero]
      refine gm_end_at rfl [(34, BsR q)] rfl (fun xs x hk => ?_)
      clear hk
      simp only [fillM, Act.put, List.setIfInBounds_toArray, List.set_cons_succ, List.set_cons_zero]
      go_wp2
      go_roundw
      case rel => exact ⟨k + 1, rv3, by omega, by go_num, by rw [HQ.out]; exact HO3.out.grow (ext_ext w3 x)⟩
      case measure => simp [intOf]; omega
    · clear hour hfl HO2
      have HX := Lib.hid hx
      clear hx
      go_wp2_with (go_at_call 29; go_must (refine (known_any _).mono ?_; rintro e w6 ⟨rfl, hx6⟩; have HX6 := Lib.hid (HX.out.trans hx6); clear hx6))
      go_ret
      exact ⟨rfl, HX6.out⟩
theorem steps_any (lv : Value) (vs : List Value) (ls : List (List UInt8)) (w : World) (hL : Rss w lv vs ls) (hle : ls.flatten.length ≤ 1048576) :
    Calls Try.prog 4 #[lv] w fun e w' => e = .returned (.bool true) ∧ Ext w w' := steps_of ls.flatten lv vs ls w (Lib.hid rfl) hL hle
end Go.Proofs.Ytapojpjmeadabaa
end

section
/- Strings: made of bytes, compared, made bytes again; appends to a block that bears such a mark. -/
namespace Go.Proofs.Ytapojpjmeadabaa
open Go.RowKit
set_option linter.unusedVariables false
set_option linter.unusedSimpArgs false
attribute [local go_sem] lt_ext cell?_ext frozen?_ext shape?_ext

abbrev Str (l : List UInt8) : Value := .string ⟨l.toArray⟩
theorem run_str (w : World) (v : Value) (l : List UInt8) (h : Bs w v l) : (convert 23 9 v).run Try.prog w = .ok (Str l) w := by
  obtain ⟨A, cap, rfl, h1, h2, h3, h4⟩ := h.is
  by_cases h0 : 0 < l.length
  · obtain ⟨b, o, rfl, hb, hc⟩ := h4 h0
    refine run_convert_bytes_back w 23 9 5 ⟨b, o, none⟩ cap l Try.underlying23 Try.underlying5 Try.underlying9 (fun j hj => ?_)
    rw [Addr.add_lit]
    exact hc j _ (by simp [hj, i8])
  · have hl : l = [] := List.eq_nil_of_length_eq_zero (by omega)
    subst hl
    cases A with
    | none => exact run_convert_bytes_nil w 23 5 Try.underlying23 Try.underlying5 0 cap 9 Try.underlying9
    | some a =>
      have := run_convert_bytes_back w 23 9 5 a cap [] Try.underlying23 Try.underlying5 Try.underlying9 (fun j hj => by simp at hj)
      exact this
theorem exec_str {o : Oper} {ρ : Operand → Value} (x : Operand) (ho : o.op = .convert 23 9 x) (v : Value) (hx : ρ x = v) (l : List UInt8) (w : World) (h : Bs w v l) :
    (execOp ρ o).run Try.prog w = .ok (.value (Str l)) w := by
  unfold execOp
  simp only [ho, hx, Sem.run_bind, run_str w v l h, Result.andThen_ok, Sem.run_pure]
theorem exec_eq9 {o : Oper} {ρ : Operand → Value} (p q : Operand) (t : TypeId) (ho : o.op = .binOp .eql 9 p q t) (l l' : List UInt8) (hp : ρ p = Str l) (hq : ρ q = Str l') (w : World) :
    (execOp ρ o).run Try.prog w = .ok (.value (.bool (decide (l = l')))) w := by
  have hg : Try.prog.eqGuardType Try.prog.depth 9 = false := by kernel_rfl
  unfold execOp
  simp only [ho, hp, hq]
  unfold Str
  simp [eqGuard, Sem.run_bind, hg, binOp_string_eql, ByteArray.toList_eq]
  by_cases h : l = l' <;> simp [h]

/-- A slice of our own, in a block that may bear a mark behind its last cell. -/
def OwnM (w : World) (v : Value) (l : List UInt8) : Prop :=
  ∃ g cap cur fr, v = .slice (some ⟨g, 0, none⟩) l.length cap ∧ w.heap[g]? = some (.cells cur 5 fr) ∧ l.length ≤ cap ∧ cap ≤ maxLen ∧ cur.size = cap ∧ cur.toList.take l.length = l.map B8 ∧ (fr = (0, 0) ∨ cap ≤ fr.1)
theorem OwnM.bs {w : World} {v : Value} {l : List UInt8} (h : OwnM w v l) : Bs w v l := by
  obtain ⟨g, cap, cur, fr, rfl, hg, h1, h2, h3, h4, h5⟩ := h
  refine Rd.lit (by simp) h1 h2 (Array.getElem?_eq_some_iff.1 hg).1 fun j u hj => ?_
  rw [Nat.zero_add, cell_of_row _ _ _ _ _ _ hg]
  rw [← h4, List.getElem?_take] at hj
  split at hj
  · simpa using hj
  · cases hj
theorem OwnM.ext {w w' : World} {v : Value} {l : List UInt8} (h : OwnM w v l) (hx : Ext w w') : OwnM w' v l := by
  obtain ⟨g, cap, cur, fr, h0, hg, h1⟩ := h
  exact ⟨g, cap, cur, fr, h0, (hx.block (Array.getElem?_eq_some_iff.1 hg).1).trans hg, h1⟩
theorem OwnM.lt {w : World} {v : Value} {l : List UInt8} (h : OwnM w v l) {g : Nat} (hv : v.ownBlock = some g) : g < w.heap.size := by
  obtain ⟨g', cap, cur, fr, rfl, hg, h1⟩ := h
  injection hv with e
  subst e
  exact (Array.getElem?_eq_some_iff.1 hg).1
theorem frozen_mark (w : World) (g j : Nat) (cur : Array Value) (t : TypeId) (fr : Nat × Nat) (hg : w.heap[g]? = some (.cells cur t fr)) (h : fr = (0, 0) ∨ j < fr.1) : w.frozen? ⟨g, j, none⟩ = false := by
  obtain ⟨lo, hi⟩ := fr
  unfold World.frozen?
  simp only [hg]
  rcases h with h | h
  · injection h with h1 h2; subst h1; subst h2; simp
  · have : ¬ lo ≤ j := by simp only at h; omega
    simp [this]
theorem run_storeCells_m (P : Program) (g o : Nat) (t : TypeId) (fr : Nat × Nat) (N : Nat) (hfr : fr = (0, 0) ∨ N ≤ fr.1) : ∀ (vs : List Value) (i : Nat) (cur : Array Value) (w : World), w.heap[g]? = some (.cells cur t fr) → o + i + vs.length ≤ cur.size → cur.size = N → (∀ v ∈ vs, v.oneCell' = true) →
    (storeCells ⟨g, o, none⟩ vs i).run P w = .ok () (w.setRow g (cur.toList.take (o + i) ++ vs ++ cur.toList.drop (o + i + vs.length)).toArray)
  | [], i, cur, w, hg, _, _, _ => by
    simp only [storeCells, List.append_nil, List.length_nil, Nat.add_zero, List.take_append_drop, Array.toArray_toList]
    rw [setRow_self w g cur t fr hg]
    rfl
  | v :: rest, i, cur, w, hg, hl, hN, h1 => by
    have hi : o + i < cur.size := by simp at hl; omega
    have hadd : (⟨g, o, none⟩ : Addr).add i = ⟨g, o + i, none⟩ := by unfold Addr.add; split <;> simp_all
    have hcell : w.cell? ⟨g, o + i, none⟩ = some cur[o + i] := by simp [World.cell?, hg, hi]
    have hfro : w.frozen? ⟨g, o + i, none⟩ = false := frozen_mark w g (o + i) cur t fr hg (hfr.imp id (fun h => by omega))
    have hst : (store ((⟨g, o, none⟩ : Addr).add i) v).run P w = .ok () (w.setRow g (cur.setIfInBounds (o + i) v)) := by
      rw [hadd, run_store P w _ v _ (h1 v (by simp)), hcell]
      simp [hfro, setCell_eq_setRow w g (o + i) cur t fr v hg]
    have ih := run_storeCells_m P g o t fr N hfr rest (i + 1) (cur.setIfInBounds (o + i) v) (w.setRow g (cur.setIfInBounds (o + i) v)) (setRow_heap w g cur _ t _ hg) (by simp at hl ⊢; omega) (by simpa using hN) (fun x hx => h1 x (by simp [hx]))
    simp only [storeCells, Sem.run_bind, hst, Result.andThen_ok, ih, setRow_setRow]
    congr 3
    have e := list_seg_step cur.toList (o + i) v rest (by simp at hl ⊢; omega)
    simpa [Array.toList_setIfInBounds, Nat.add_assoc] using e
theorem run_append_m (ty : TypeId) (w : World) (v : Value) (l : List UInt8) (hown : OwnM w v l) (y : Value) (l' : List UInt8) (hy : Bs w y l') (h63 : l.length + l'.length ≤ 4294967296) :
    ∃ v' w', (Builtin.append_ #[23, 23] ty #[v, y]).run Try.prog w = .ok v' w' ∧ OwnM w' v' (l ++ l') ∧ Grew w w' v ∧ (v'.ownBlock = v.ownBlock ∨ ∀ g, v'.ownBlock = some g → w.heap.size ≤ g) := by
  obtain ⟨i, hi, hz0, hz1, hz2⟩ := info_parts ei23.info
  obtain ⟨g, cap, cur, fr, rfl, hg, hnc, hcm, hcs, htake, hfr⟩ := hown
  obtain ⟨A, cap', rfl, hc1, hc2, hc3, hc4⟩ := hy.is
  have hOl : (l ++ l').length = l.length + l'.length := List.length_append
  by_cases h0 : l'.length = 0
  · have : l' = [] := List.eq_nil_of_length_eq_zero h0
    subst this
    refine ⟨.slice (some ⟨g, 0, none⟩) l.length cap, w, ?_, by rw [List.append_nil]; exact ⟨g, cap, cur, fr, rfl, hg, hnc, hcm, hcs, htake, hfr⟩, World.grownBy.refl _ _, .inl rfl⟩
    have hl0 : ∀ a : Addr, (loadCells a 0).run Try.prog w = .ok #[] w := fun a => by
      have := run_loadCells_list (P := Try.prog) w a [] (fun j v hj => by cases hj)
      simpa using this
    cases A <;> simp [Builtin.append_, run_underlying ei23.t, sizeOf, typeInfo, hi, Builtin.lenOf, Builtin.firstCells, hnc, storeCells, hl0]
  · obtain ⟨b, o, rfl, hb, hcell⟩ := hc4 (by omega)
    by_cases hroom : l.length + l'.length ≤ cap
    · have hf := run_firstCells_some (P := Try.prog) w i.size l'.length ⟨b, o, none⟩ l'.length cap' (l'.map B8) (by rw [hz1]; simp) (fun j u hj => by rw [Addr.add_lit]; exact hcell j u hj)
      rw [hz1] at hf
      have hst := run_storeCells_m Try.prog g l.length 5 fr cap hfr (l'.map B8) 0 cur w hg (by simp; omega) hcs (one_bytes _)
      simp only [Nat.add_zero] at hst
      refine ⟨.slice (some ⟨g, 0, none⟩) (l.length + l'.length) cap, w.setRow g (cur.toList.take l.length ++ l'.map B8 ++ cur.toList.drop (l.length + (l'.map B8).length)).toArray, ?_, ?_, ?_, .inl rfl⟩
      · simp [Builtin.append_, run_underlying ei23.t, sizeOf, typeInfo, hi, Builtin.lenOf, hroom, hz1, hf, Addr.add_lit, hst]
      · refine ⟨g, cap, _, fr, by rw [hOl], setRow_heap w g cur _ 5 _ hg, by rw [hOl]; exact hroom, hcm, ?_, ?_, hfr⟩
        · simp only [List.size_toArray, List.length_append, List.length_take, List.length_drop, Array.length_toList, List.length_map]
          omega
        · rw [htake, List.map_append]
          exact List.take_left' (by simp)
      · exact ⟨rfl, rfl, rfl, by simp, fun k _ hk => setRow_other w g k _ (fun e => hk (by rw [e]; rfl))⟩
    · have holds : ∀ j u, (l.map B8)[j]? = some u → w.cell? ((⟨g, 0, none⟩ : Addr).add j) = some u := fun j u hj => by
        rw [Addr.add_lit, Nat.zero_add, cell_of_row _ _ _ _ _ _ hg]
        rw [← htake, List.getElem?_take] at hj
        split at hj
        · simpa using hj
        · cases hj
      have hr := run_append_grow (P := Try.prog) w 23 ty 5 i _ ei23.t hi hz0 ⟨g, 0, none⟩ l.length cap (l.map B8) (by rw [hz1]; simp) holds ⟨b, o, none⟩ l'.length cap' (l'.map B8) (by rw [hz1]; simp) (fun j u hj => by rw [Addr.add_lit]; exact hcell j u hj) (by omega) (by omega) (growslice_fits (by omega) (by rw [hz2]; omega))
      refine ⟨_, _, hr, ?_, ⟨rfl, rfl, rfl, by simp, fun k hk _ => heap_alloc_old w.drew _ hk⟩, .inr fun g' hv => by injection hv with e1; subst e1; exact Nat.le_refl _⟩
      refine ⟨w.heap.size, _, _, (0, 0), by rw [hOl], heap_alloc_new w.drew _, by rw [hOl]; exact grownCap_ge w _ cap 5, grownCap_le_maxLen w _ cap 5 (by unfold maxLen; omega), ?_, ?_, .inl rfl⟩
      · have := grownCap_ge w (l.length + l'.length) cap 5
        simp only [Array.size_append, size_zeroCells, Value.cells, List.size_toArray, List.length_map]
        simp
        omega
      · simp only [Array.toList_append, List.map_append]
        exact List.take_left' (by simp)
theorem wpList_append_m {ops : Array Oper} {rest : List Oper} {o : Oper} {a : Act} {w : World} {Q : Exit → Act → World → Prop} (hgd : o.guard = none)
    (s x : Operand) (ho : o.op = .call { callee := .builtin .append, args := #[s, x], argTypes := #[23, 23] }) (v : Value) (hs : a.eval s = v) {l : List UInt8} (hown : OwnM w v l)
    (y : Value) (hx : a.eval x = y) {l' : List UInt8} (hy : Bs w y l') (h63 : l.length + l'.length ≤ 4294967296)
    (hK : ∀ v' w', OwnM w' v' (l ++ l') → Grew w w' v → (v'.ownBlock = v.ownBlock ∨ ∀ g, v'.ownBlock = some g → w.heap.size ≤ g) → wpList Try.prog ops Q rest (a.put o.dst v') w') : wpList Try.prog ops Q (o :: rest) a w := by
  refine wpList_plain hgd fun K hKK => ?_
  obtain ⟨v', w', hr, h2, h3, h4⟩ := run_append_m o.type w v l hown y l' hy h63
  unfold Oper.wp execOp
  simp only [ho, resolve, invoke, builtin, Sem.run_bind, Sem.run_pure, Result.andThen_ok, List.map_toArray, List.map_cons, List.map_nil, hs, hx, hr]
  exact hKK _ _ (hK v' w' h2 h3 h4)
/-- New bytes that may be appended to, in such a block. -/
structure NewM (w : World) (v : Value) (l : List UInt8) (w' : World) : Prop where
  own : OwnM w' v l
  ext : Ext w w'
  fr : ∀ g, v.ownBlock = some g → w.heap.size ≤ g
theorem NewM.bs {w w' : World} {v : Value} {l : List UInt8} (h : NewM w v l w') : Bs w' v l := h.own.bs
theorem NewM.grow {w w1 w2 : World} {v : Value} {l : List UInt8} (h : NewM w v l w1) (hx : Ext w1 w2) : NewM w v l w2 := ⟨h.own.ext hx, h.ext.trans hx, h.fr⟩
theorem NewM.app {w w1 w2 : World} {v v' : Value} {l l' : List UInt8} (h : NewM w v l w1) (ho : OwnM w2 v' l') (hg : Grew w1 w2 v) (hf : v'.ownBlock = v.ownBlock ∨ ∀ g, v'.ownBlock = some g → w1.heap.size ≤ g) : NewM w v' l' w2 := by
  refine ⟨ho, ?_, fun g hv => ?_⟩
  · exact (Chg.trans (S := fun _ => False) (Chg.of_ext h.ext _) (Chg.of_grew hg) (fun i hi e => by have := h.fr i e.symm; omega)).ext fun k hk => hk.elim
  · rcases hf with e | e
    · exact h.fr g (e ▸ hv)
    · exact Nat.le_trans h.ext.size (e g hv)
/-- []byte(s). -/
theorem wpl_bytes {ops : Array Oper} {rest : List Oper} {o : Oper} {a : Act} {w : World} {Q : Exit → Act → World → Prop} (hgd : o.guard = none) (x : Operand) (ho : o.op = .convert 9 23 x)
    (s : ByteArray) (hx : a.eval x = .string s) (l : List UInt8) (hl : s.data.toList = l) (h32 : l.length ≤ 4294967296)
    (h : ∀ v w', NewM w v l w' → wpList Try.prog ops Q rest (a.put o.dst v) w') : wpList Try.prog ops Q (o :: rest) a w := by
  refine wpList_plain hgd fun K hKK => ?_
  have hr := run_bytes_of_string (P := Try.prog) w 9 23 5 s Try.underlying9 Try.underlying23 Try.underlying5
  have hsz : s.size = l.length := by rw [← hl, Array.length_toList]; rfl
  unfold Oper.wp execOp
  simp only [ho, hx, Sem.run_bind, hr, Result.andThen_ok, Sem.run_pure, Oper.upon]
  refine hKK _ _ (h _ _ ⟨⟨w.heap.size, grownCap w s.size 0 5, bytesRow s (grownCap w s.size 0 5), _, by rw [hsz], heap_alloc_new w.drew _, ?_, ?_, ?_, ?_, .inr ?_⟩, ⟨rfl, rfl, rfl, by simp, fun k hk => heap_alloc_old w.drew _ hk⟩, fun g hg => by injection hg with e; subst e; exact Nat.le_refl _⟩)
  · rw [← hsz]; exact grownCap_ge w s.size 0 5
  · exact grownCap_le_maxLen w s.size 0 5 (by unfold maxLen; omega)
  · have := grownCap_ge w s.size 0 5
    have h2 : s.data.size = s.size := rfl
    simp only [bytesRow, Array.size_append, Array.size_map, Array.size_replicate]
    omega
  · have h2 : s.data.size = s.size := rfl
    simp only [bytesRow, Array.toList_append, Array.toList_map, hl]
    exact List.take_left' (by simp)
  · have := grownCap_ge w s.size 0 5
    have h2 : s.data.size = s.size := rfl
    simp only [bytesRow, Array.size_append, Array.size_map, Array.size_replicate]
    omega
end Go.Proofs.Ytapojpjmeadabaa
end

section
/- Small functions on bytes: sacristanref00.Same, Copy; sacristanref03.Slice, pad; codec.Pad, Equal. -/
namespace Go.Proofs.Ytapojpjmeadabaa
open Go.RowKit
set_option linter.unusedVariables false
set_option linter.unusedSimpArgs false
attribute [local go_sem] lt_ext cell?_ext frozen?_ext shape?_ext
attribute [local go_sem] u8_xor u8_or i8_mod u8_wrap

theorem wpl_exec {ops : Array Oper} {rest : List Oper} {o : Oper} {a : Act} {w : World} {Q : Exit → Act → World → Prop} (hgd : o.guard = none) (v : Value)
    (hr : (execOp a.eval o).run Try.prog w = .ok (.value v) w) (h : wpList Try.prog ops Q rest (a.put o.dst v) w) : wpList Try.prog ops Q (o :: rest) a w :=
  wpl_v (by simp [Region.wanted, hgd]) v hr h
set_option maxRecDepth 100000 in
set_option maxHeartbeats 1000000 in
theorem same_any (va vb : Value) (la lb : List UInt8) (w : World) (hA : Bs w va la) (hB : Bs w vb lb) :
    Calls Try.prog 49 #[va, vb] w fun e w' => e = .returned (.bool (decide (la = lb))) ∧ w = w' := by
  have HA := Lib.hid hA
  have HB := Lib.hid hB
  clear hA hB
  go_enter Try.func49, Try.ntmps49
  go_wp2_with (first | (refine wpl_exec rfl _ (exec_str (.tmp 5) rfl va rfl la _ HA.out) ?_) | (refine wpl_exec rfl _ (exec_str (.tmp 7) rfl vb rfl lb _ HB.out) ?_) | (refine wpl_exec rfl _ (exec_eq9 (.tmp 6) (.tmp 8) _ rfl la lb rfl rfl _) ?_))
  go_ret
  exact ⟨rfl, rfl⟩
set_option maxRecDepth 100000 in
set_option maxHeartbeats 1000000 in
theorem copy0_any (v : Value) (l : List UInt8) (w : World) (hB : Bs w v l) (hl : l.length ≤ 4294967296) :
    Calls Try.prog 51 #[v] w fun e w' => ∃ v', e = .returned v' ∧ NewB w v' l w' := by
  have HB := Lib.hid hB
  clear hB
  go_enter Try.func51, Try.ntmps51
  go_wp2_with (at_builtin; go_must (refine wpList_append_bs rfl _ _ rfl (.slice none 0 0) rfl (l := []) (Own.nil _ _ _) _ rfl HB.out (by simp; omega) ?_; intro v1 w1 ho1 hg1 hf1; have HN1 := Lib.hid ((NewB.nil (Ext.refl w)).app ho1 hg1 hf1); rw [List.nil_append] at HN1; clear ho1 hg1 hf1))
  go_ret
  exact ⟨_, rfl, HN1.out⟩
set_option maxRecDepth 100000 in
set_option maxHeartbeats 1000000 in
theorem slice_any (D : List UInt8) (hD : D.length = 32) (w : World) :
    Calls Try.prog 50 #[Dig D] w fun e w' => ∃ v, e = .returned v ∧ NewB w v D w' := by
  have HD := Lib.hid hD
  clear hD
  go_enter Try.func50, Try.ntmps50
  go_wp2
  have hb0 : Blk (w.alloc (.cells (row8 D) 27)) w.heap.size 27 D := heap_alloc_last w _
  have hx0 : Ext w (w.alloc (.cells (row8 D) 27)) := (Ext.refl w).alloc _
  generalize w.alloc (.cells (row8 D) 27) = w0 at *
  have HB0 := Lib.hid hb0
  have HX0 := Lib.hid hx0
  clear hb0 hx0
  go_loopw [3, 4] (fun v i wr => ∃ (k : Nat), k ≤ 32 ∧ i = .int .i64 k ∧ NewB w0 v (D.take k) wr) (fun _ i _ => 32 - (intOf i).toNat)
  case atStart => exact ⟨0, by omega, rfl, NewB.nil (Ext.refl w0)⟩
  case round =>
    obtain ⟨k, hk, rfl, hnew⟩ := hrel
    have HN := Lib.hid hnew
    by_cases hlt : k < 32
    · have hB := HB0.out.ext hnew.ext
      have hcell := hB.cell k (by have := HD.out; omega)
      have hbl := hB.lt
      have HS : Hid (D.take (k + 1) = D.take k ++ [D.getD k 0]) := Lib.hid (by rw [List.take_add_one]; congr 1; have := HD.out; simp [List.getElem?_eq_getElem (show k < D.length by omega)])
      have hll : (D.take k).length ≤ 32 := by simp; omega
      generalize D.getD k 0 = x at *
      clear hnew hB
      go_wp2_with (at_builtin; go_must (refine wpList_append_bs rfl _ _ rfl _ rfl (HN.out.grow ((Ext.refl wr).alloc _)).own _ rfl (Bs.lit_new wr _ [x] (one_cells _) (by simp)) (by simp; omega) ?_; intro v1 w1 ho1 hg1 hf1; have HN1 := Lib.hid ((HN.out.grow ((Ext.refl wr).alloc _)).app ho1 hg1 hf1); clear ho1 hg1 hf1))
      go_roundw
      case rel => exact ⟨k + 1, by omega, by go_num, by rw [HS.out]; exact HN1.out⟩
      case measure => simp [intOf]; omega
    · obtain rfl : k = 32 := by omega
      have e : D.take 32 = D := List.take_of_length_le (by have := HD.out; omega)
      rw [e] at HN
      clear hnew e
      go_wp2
      go_ret
      exact ⟨_, rfl, HN.out.own, HX0.out.trans HN.out.ext, fun g hg => Nat.le_trans HX0.out.size (HN.out.fr g hg)⟩
def kpad (l : List UInt8) (c : UInt8) (k : Nat) : List UInt8 := (Sha.pad l c).take k
theorem pad_length (l : List UInt8) (c : UInt8) (hl : l.length ≤ 64) : (Sha.pad l c).length = 64 := by simp [Sha.pad, Sha.zeros]; omega
theorem kpad_next (l : List UInt8) (c : UInt8) (hl : l.length ≤ 64) (k : Nat) (hk : k < 64) : kpad l c (k + 1) = kpad l c k ++ [(l.getD k 0) ^^^ c] := by
  unfold kpad
  rw [List.take_add_one]
  congr 1
  have h := pad_length l c hl
  rw [List.getElem?_eq_getElem (by omega)]
  simp only [Option.toList_some, List.cons.injEq, and_true]
  simp only [Sha.pad, List.getElem_map]
  congr 1
  by_cases hkl : k < l.length
  · rw [List.getElem_append_left hkl]; simp [hkl]
  · rw [List.getElem_append_right (by omega)]; simp [Sha.zeros, List.getD, List.getElem?_eq_none (show l.length ≤ k by omega)]
set_option maxRecDepth 100000 in
set_option maxHeartbeats 1000000 in
theorem rpad_any (v : Value) (l : List UInt8) (c : UInt8) (hl : l.length ≤ 64) (w : World) (hB : Bs w v l) :
    Calls Try.prog 91 #[v, B8 c] w fun e w' => ∃ v', e = .returned v' ∧ NewB w v' (Sha.pad l c) w' := by
  obtain ⟨A, cap, rfl, hcap, hcm, _, _⟩ := hB.is
  have HB := Lib.hid hB
  clear hB
  go_enter Try.func91, Try.ntmps91
  go_wp2
  go_loopw [5, 6, 7] (fun v i q wr => ∃ (k : Nat), k ≤ 64 ∧ i = .int .i64 k ∧ NewB w v (kpad l c k) wr) (fun _ i _ _ => 64 - (intOf i).toNat)
  case atStart => exact ⟨0, by omega, rfl, NewB.nil (Ext.refl w)⟩
  case round =>
    obtain ⟨k, hk, rfl, hnew⟩ := hrel
    have HN := Lib.hid hnew
    by_cases hlt : k < 64
    · have HS := Lib.hid (kpad_next l c hl k hlt)
      have hll : (kpad l c k).length ≤ 64 := by unfold kpad; simp; omega
      by_cases hkl : k < l.length
      · obtain ⟨b, o, cap', hA, _, _, hbl, hcell⟩ := HB.out.pos (by omega)
        injection hA with hA1 hA2 hA3
        subst hA1
        subst hA3
        have hc := (hnew.ext.cell b (o + k) hbl).trans (hcell k hkl)
        generalize l.getD k 0 = x at *
        clear hnew hcell
        go_wp2_with (at_builtin; go_must (refine wpList_append_bs rfl _ _ rfl _ rfl (HN.out.grow ((Ext.refl wr).alloc _)).own _ rfl (Bs.lit_new wr _ [x ^^^ c] (one_cells _) (by simp)) (by simp; omega) ?_; intro v1 w1 ho1 hg1 hf1; have HN1 := Lib.hid ((HN.out.grow ((Ext.refl wr).alloc _)).app ho1 hg1 hf1); clear ho1 hg1 hf1))
        go_roundw
        case rel => exact ⟨k + 1, by omega, by go_num, by rw [HS.out]; exact HN1.out⟩
        case measure => simp [intOf]; omega
      · have hx0 : l.getD k 0 = 0 := by simp [List.getD, List.getElem?_eq_none (show l.length ≤ k by omega)]
        rw [hx0, UInt8.zero_xor] at HS
        have h0 : (0 : Int) = i8 0 := rfl
        clear hnew hx0
        go_wp2_with (at_builtin; go_must (refine wpList_append_bs rfl _ _ rfl _ rfl (HN.out.grow ((Ext.refl wr).alloc _)).own _ rfl (Bs.lit_new wr _ [c] (one_cells _) (by simp)) (by simp; omega) ?_; intro v1 w1 ho1 hg1 hf1; have HN1 := Lib.hid ((HN.out.grow ((Ext.refl wr).alloc _)).app ho1 hg1 hf1); clear ho1 hg1 hf1))
        go_roundw
        case rel => exact ⟨k + 1, by omega, by go_num, by rw [HS.out]; exact HN1.out⟩
        case measure => simp [intOf]; omega
    · obtain rfl : k = 64 := by omega
      have e : kpad l c 64 = Sha.pad l c := List.take_of_length_le (by rw [pad_length _ _ hl]; exact Nat.le_refl _)
      rw [e] at HN
      clear hnew e
      go_wp2
      go_ret
      exact ⟨_, rfl, HN.out⟩

set_option maxRecDepth 100000 in
set_option maxHeartbeats 1000000 in
theorem cpad_any (v : Value) (l : List UInt8) (hl : l.length ≤ 64) (w : World) (hB : Bs w v l) :
    Calls Try.prog 93 #[v, .int .i64 64] w fun e w' => ∃ v', e = .returned v' ∧ NewB w v' (l ++ Sha.zeros (64 - l.length)) w' := by
  obtain ⟨A, cap, rfl, hcap, hcm, _, _⟩ := hB.is
  have HB := Lib.hid hB
  clear hB
  have hm : (64 : Int) - (l.length : Int) = ((64 - l.length : Nat) : Int) := by omega
  have T0 : True := trivial
  go_enter Try.func93, Try.ntmps93
  go_wp2_with (first | (at_builtin; clear T0; go_must (refine wpList_append_bs rfl _ _ rfl (.slice none 0 0) rfl (l := []) (Own.nil _ _ _) _ rfl HB.out (by simp; omega) ?_; intro v1 w1 ho1 hg1 hf1; have HN1 := Lib.hid ((NewB.nil (Ext.refl w)).app ho1 hg1 hf1); rw [List.nil_append] at HN1; have T1 : True := trivial; clear ho1 hg1 hf1)) | (at_builtin; clear T1; go_must (refine wpList_append_zeros rfl _ _ rfl _ rfl HN1.out.own (64 - l.length) (by exact congrArg (Value.int .i64) (show (if 0 < 64 - l.length then ((64 - l.length : Nat) : Int) else 0) = ((64 - l.length : Nat) : Int) by split <;> omega)) (by omega) ?_; intro v2 w2 ho2 hg2 hf2; have HN2 := Lib.hid (HN1.out.app ho2 hg2 hf2); clear ho2 hg2 hf2)))
  all_goals
    go_ret
    exact ⟨_, rfl, HN2.out⟩
/- The padding closure: its key lies in a variable. -/
theorem xor_next (L : List UInt8) (c : UInt8) (j : Nat) (hj : j < L.length) : ((L.take j).map (· ^^^ c) ++ L.drop j).set j ((L.getD j 0) ^^^ c) = (L.take (j + 1)).map (· ^^^ c) ++ L.drop (j + 1) := by
  have e : L.drop j = L.getD j 0 :: L.drop (j + 1) := by
    rw [List.drop_eq_getElem_cons hj]
    simp [hj]
  rw [List.set_append_right _ _ (by simp; omega), e]
  have hl : ((L.take j).map (· ^^^ c)).length = j := by simp; omega
  rw [hl, Nat.sub_self, List.set_cons_zero, List.take_add_one, List.map_append, List.append_assoc]
  congr 1
  simp [hj]
theorem xor_at (L : List UInt8) (c : UInt8) (j : Nat) (hj : j < L.length) : ((L.take j).map (· ^^^ c) ++ L.drop j).getD j 0 = L.getD j 0 := by
  have hl : ((L.take j).map (· ^^^ c)).length = j := by simp; omega
  simp only [List.getD]
  rw [List.getElem?_append_right (by omega), hl, Nat.sub_self, List.getElem?_drop]
  rfl
theorem NewB.form {w w' : World} {v : Value} {l : List UInt8} (h : NewB w v l w') (hl : 0 < l.length) : ∃ G cap, v = .slice (some ⟨G, 0, none⟩) l.length cap ∧ w.heap.size ≤ G ∧ G < w'.heap.size ∧ l.length ≤ cap ∧ cap ≤ maxLen := by
  obtain ⟨h1, h2⟩ := h.own
  rcases h2 with ⟨rfl, h0⟩ | ⟨g, cap, cur, rfl, _, hg, h3, h4, _⟩
  · omega
  · exact ⟨g, cap, rfl, h.fr g rfl, (Array.getElem?_eq_some_iff.1 hg).1, h3, h4⟩
theorem Own.at {w : World} {G n cap : Nat} {L : List UInt8} (h : Own w 5 1 (.slice (some ⟨G, 0, none⟩) n cap) n (L.map B8)) (j : Nat) (hj : j < n) : w.cell? ⟨G, j, none⟩ = some (B8 (L.getD j 0)) := by
  have hl : L.length = n := by have := h.1; simpa using this
  rw [World.ownsRow.cellAt h j (by omega)]
  simp [List.getElem?_eq_getElem (show j < L.length by omega)]
theorem Own.put {w : World} {G n cap : Nat} {L : List UInt8} (h : Own w 5 1 (.slice (some ⟨G, 0, none⟩) n cap) n (L.map B8)) (j : Nat) (x : UInt8) : Own (w.setCell ⟨G, j, none⟩ (B8 x)) 5 1 (.slice (some ⟨G, 0, none⟩) n cap) n ((L.set j x).map B8) := by
  rw [List.map_set]
  exact (World.ownsRow.stored h j (B8 x)).1
theorem Own.toB {w : World} {G n cap : Nat} {L : List UInt8} (h : Own w 5 1 (.slice (some ⟨G, 0, none⟩) n cap) n (L.map B8)) : OwnB w (.slice (some ⟨G, 0, none⟩) n cap) L := by
  have hl : L.length = n := by have := h.1; simpa using this
  subst hl
  exact h
set_option maxRecDepth 100000 in
set_option maxHeartbeats 1000000 in
theorem padc_any (g : Nat) (v : Value) (l : List UInt8) (c : UInt8) (hl : l.length ≤ 64) (w : World) (hg : w.cell? ⟨g, 0, none⟩ = some v) (hB : Bs w v l) :
    Calls Try.prog 92 #[B8 c, .pointer (some ⟨g, 0, none⟩)] w fun e w' => ∃ v', e = .returned v' ∧ NewB w v' (Sha.pad l c) w' := by
  have HB := Lib.hid hB
  clear hB
  have hLl : (l ++ Sha.zeros (64 - l.length)).length = 64 := by simp [Sha.zeros]; omega
  obtain ⟨L, hL⟩ : ∃ L, l ++ Sha.zeros (64 - l.length) = L := ⟨_, rfl⟩
  have HP : Hid (Sha.pad l c = L.map (· ^^^ c)) := Lib.hid (by rw [← hL]; rfl)
  rw [hL] at hLl
  have HL := Lib.hid hL
  have HLl := Lib.hid hLl
  clear hL hLl
  go_enter Try.func92, Try.ntmps92
  go_wp2_with (go_at_call 93; go_must (refine (cpad_any _ l hl _ HB.out).mono ?_; rintro e w1 ⟨v1, rfl, hn⟩; rw [HL.out] at hn; obtain ⟨G, cap, rfl, hG1, hG2, hG3, hG4⟩ := hn.form (by rw [HLl.out]; decide); rw [HLl.out] at hn hG3; have HO1 : Hid (Own w1 5 1 (.slice (some ⟨G, 0, none⟩) 64 cap) 64 (L.map B8)) := Lib.hid (by have := hn.own; unfold OwnB at this; rw [HLl.out] at this; exact this); have HX1 := Lib.hid hn.ext; clear hn; rw [HLl.out]))
  unfold maxLen at hG4
  go_loopw [10, 5] (fun r i wr => ∃ (j : Nat), j ≤ 64 ∧ r = .int .i64 j ∧ Own wr 5 1 (.slice (some ⟨G, 0, none⟩) 64 cap) 64 (((L.take j).map (· ^^^ c) ++ L.drop j).map B8) ∧ Ext w wr) (fun r _ _ => 64 - (intOf r).toNat)
  case atStart => exact ⟨0, by omega, rfl, by simpa using HO1.out, HX1.out⟩
  case round =>
    obtain ⟨j, hj, rfl, ho, hx⟩ := hrel
    by_cases hlt : j < 64
    · have hcell := Own.at ho j hlt
      have hf := World.ownsRow.frozenAt ho j
      have hbl := Own.lt ho (g := G) rfl
      rw [xor_at L c j (by rw [HLl.out]; exact hlt)] at hcell
      have HS := Lib.hid (xor_next L c j (by rw [HLl.out]; exact hlt))
      generalize L.getD j 0 = x at *
      have HO := Lib.hid ho
      have HX := Lib.hid hx
      clear ho hx HO1 HX1
      go_wp2
      go_roundw
      case rel =>
        refine ⟨j + 1, by omega, by go_num, ?_, Ext.setCell_new HX.out trivial hG1⟩
        have h := Own.put HO.out j (x ^^^ c)
        rw [HS.out] at h
        exact h
      case measure => simp [intOf]; omega
    · obtain rfl : j = 64 := by omega
      have e : (L.take 64).map (· ^^^ c) ++ L.drop 64 = Sha.pad l c := by
        rw [List.take_of_length_le (Nat.le_of_eq HLl.out), List.drop_of_length_le (Nat.le_of_eq HLl.out), List.append_nil, HP.out]
      rw [e] at ho
      have HO := Lib.hid ho
      have HX := Lib.hid hx
      clear ho hx e HO1 HX1
      go_wp2
      go_ret
      exact ⟨_, rfl, Own.toB HO.out, HX.out, fun g hg => by injection hg with e; subst e; exact hG1⟩
end Go.Proofs.Ytapojpjmeadabaa
end

section
/- codec.Equal, codec.Put, codec.Get. -/
namespace Go.Proofs.Ytapojpjmeadabaa
open Go.RowKit
set_option linter.unusedVariables false
set_option linter.unusedSimpArgs false
attribute [local go_sem] lt_ext cell?_ext frozen?_ext shape?_ext
attribute [local go_sem] u8_xor u8_or i8_mod u8_wrap

set_option maxRecDepth 100000 in
set_option maxHeartbeats 1000000 in
theorem differ_any (g : Nat) (o x y : UInt8) (w : World) (hg : w.cell? ⟨g, 0, none⟩ = some (B8 o)) (hf : w.frozen? ⟨g, 0, none⟩ = false) :
    Calls Try.prog 119 #[B8 x, B8 y, .pointer (some ⟨g, 0, none⟩)] w fun e w' => e = .returned (.tuple #[]) ∧ w.setCell ⟨g, 0, none⟩ (B8 (o ||| (x ^^^ y))) = w' := by
  go_enter Try.func119, Try.ntmps119
  go_wp2
  go_end0
  exact ⟨rfl, rfl⟩
theorem or_zero (o x y : UInt8) : (o ||| (x ^^^ y)) = 0 ↔ o = 0 ∧ x = y := by
  rw [UInt8.or_eq_zero_iff, UInt8.xor_eq_zero_iff]
theorem eq_next (la lb : List UInt8) (h : la.length = lb.length) (j : Nat) (hj : j < la.length) : (la.take (j + 1) = lb.take (j + 1)) ↔ (la.take j = lb.take j ∧ la.getD j 0 = lb.getD j 0) := by
  rw [List.take_add_one, List.take_add_one, List.getElem?_eq_getElem hj, List.getElem?_eq_getElem (show j < lb.length by omega)]
  simp only [Option.toList_some, List.getD, List.getElem?_eq_getElem hj, List.getElem?_eq_getElem (show j < lb.length by omega), Option.getD_some]
  constructor
  · intro e
    have := List.append_inj e (by simp; omega)
    exact ⟨this.1, by simpa using this.2⟩
  · rintro ⟨e1, e2⟩
    rw [e1, e2]
set_option maxRecDepth 100000 in
set_option maxHeartbeats 1000000 in
theorem equal_any (va vb : Value) (la lb : List UInt8) (w : World) (hA : Bs w va la) (hB : Bs w vb lb) :
    Calls Try.prog 94 #[va, vb] w fun e w' => e = .returned (.bool (decide (la = lb))) ∧ Ext w w' := by
  obtain ⟨A, cap, rfl, hcap, hcm, _, _⟩ := hA.is
  obtain ⟨A', cap', rfl, hcap', hcm', _, _⟩ := hB.is
  unfold maxLen at hcm hcm'
  have HA := Lib.hid hA
  have HB := Lib.hid hB
  clear hA hB
  by_cases hl : la.length = lb.length
  · have hl1 : ((la.length : Int) != (lb.length : Int)) = false := by simp [hl]
    have HL := Lib.hid hl
    clear hl
    go_enter Try.func94, Try.ntmps94
    go_wp2
    go_loopw [17, 7, 8] (fun r i c wr => ∃ (j : Nat) (o : UInt8), j ≤ la.length ∧ r = .int .i64 j ∧ wr.heap[w.heap.size]? = some (.cells #[B8 o] 5 (0, 0)) ∧ Ext w wr ∧ Hid (o = 0 ↔ la.take j = lb.take j)) (fun r _ _ _ => la.length - (intOf r).toNat)
    case atStart => exact ⟨0, 0, by omega, rfl, heap_alloc_last w _, (Ext.refl w).alloc _, Lib.hid (by simp)⟩
    case round =>
      obtain ⟨j, o, hj, rfl, hg, hx, ho⟩ := hrel
      clear hl1
      by_cases hlt : j < la.length
      · obtain ⟨b, p, c1, hA, _, _, hbl, hcell⟩ := HA.out.pos (by omega)
        injection hA with hA1 hA2 hA3
        subst hA1
        subst hA3
        obtain ⟨b', p', c1', hA, _, _, hbl', hcell'⟩ := HB.out.pos (by have := HL.out; omega)
        injection hA with hA1 hA2 hA3
        subst hA1
        subst hA3
        have hlt' : j < lb.length := by have := HL.out; omega
        have hc := (hx.cell b (p + j) hbl).trans (hcell j hlt)
        have hc' := (hx.cell b' (p' + j) hbl').trans (hcell' j hlt')
        have HS := Lib.hid (eq_next la lb HL.out j hlt)
        generalize la.getD j 0 = x at *
        generalize lb.getD j 0 = y at *
        have HX := Lib.hid hx
        have HG := Lib.hid hg
        have hn : wr.heap[w.heap.size]? = some (.cells #[B8 o] 5 (0, 0)) := hg
        clear hx hcell hcell' hg
        go_wp2_with (go_at_call 119; go_must (refine (differ_any w.heap.size o x y _ (by rw [cell_of_row _ _ _ _ _ _ HG.out]; rfl) (frozen_of_row _ _ _ _ _ HG.out)).mono ?_; rintro e w1 ⟨rfl, rfl⟩))
        go_roundw
        case rel =>
          refine ⟨j + 1, o ||| (x ^^^ y), by omega, by go_num, ?_, Ext.setCell_new HX.out trivial (Nat.le_refl _), Lib.hid ?_⟩
          · exact heap_setCell_same _ _ 0 _ _ _ HG.out
          · rw [or_zero, HS.out, ho.out]
        case measure => simp [intOf]; omega
      · obtain rfl : j = la.length := by omega
        have e : (o = 0 ↔ la = lb) := by
          have := ho.out
          rw [List.take_length, HL.out, List.take_length] at this
          exact this
        have hc : wr.cell? ⟨w.heap.size, 0, none⟩ = some (B8 o) := by rw [cell_of_row _ _ _ _ _ _ hg]; rfl
        have HX := Lib.hid hx
        clear hx hg
        by_cases h0 : o = 0
        · have e2 : decide (la = lb) = true := by simp [e.1 h0]
          subst h0
          have i0 : i8 0 = 0 := rfl
          clear e
          go_wp2
          go_ret
          exact ⟨by first | (rw [e2]; rfl) | rfl, HX.out⟩
        · have e2 : decide (la = lb) = false := by simp [← e, h0]
          have i0 : (i8 o == 0) = false := by
            simp only [beq_eq_false_iff_ne]
            exact fun h => h0 (i8_inj (y := 0) h)
          clear e h0
          go_wp2
          go_ret
          exact ⟨by first | (rw [e2]; rfl) | rfl, HX.out⟩
  · have hl1 : ((la.length : Int) != (lb.length : Int)) = true := by simp; omega
    have e2 : decide (la = lb) = false := by
      simp only [decide_eq_false_iff_not]
      exact fun e => hl (by rw [e])
    rw [e2]
    clear e2 hl
    go_enter Try.func94, Try.ntmps94
    go_wp2
    go_ret
    exact ⟨rfl, Ext.refl w⟩
end Go.Proofs.Ytapojpjmeadabaa
end

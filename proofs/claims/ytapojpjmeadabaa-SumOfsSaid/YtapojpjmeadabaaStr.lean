/- Strings: made of bytes, compared, made bytes again; appends to a block that bears such a mark. -/
import Derived.Test.YtapojpjmeadabaaByt
import Derived.Test.YtapojpjmeadabaaCopies
import Derived.Laws.IdiomStrings
import Derived.Laws.BytesArg
namespace Go.Proofs.Ytapojpjmeadabaa
open Go.RowKit
set_option linter.unusedVariables false
set_option linter.unusedSimpArgs false
attribute [local go_sem] lt_ext cell?_ext frozen?_ext shape?_ext

abbrev Str (l : List UInt8) : Value := .string ⟨l.toArray⟩
theorem run_str (w : World) (v : Value) (l : List UInt8) (h : Bs w v l) : (convert 23 9 v).run Try.prog w = .ok (Str l) w := by
  obtain ⟨A, cap, rfl, h1, h2, h3, h4⟩ := h.is
  by_cases h0 : 0 < l.length
  · obtain ⟨b, o, rfl, hb, hc⟩ := h4 h0
    refine run_convert_bytes_back w 23 9 5 ⟨b, o, none⟩ cap l Try.underlying23 Try.underlying5 Try.underlying9 (fun j hj => ?_)
    rw [Addr.add_lit]
    exact hc j _ (by simp [hj, i8])
  · have hl : l = [] := List.eq_nil_of_length_eq_zero (by omega)
    subst hl
    cases A with
    | none => exact run_convert_bytes_nil w 23 5 Try.underlying23 Try.underlying5 0 cap 9 Try.underlying9
    | some a =>
      have := run_convert_bytes_back w 23 9 5 a cap [] Try.underlying23 Try.underlying5 Try.underlying9 (fun j hj => by simp at hj)
      exact this
theorem exec_str {o : Oper} {ρ : Operand → Value} (x : Operand) (ho : o.op = .convert 23 9 x) (v : Value) (hx : ρ x = v) (l : List UInt8) (w : World) (h : Bs w v l) :
    (execOp ρ o).run Try.prog w = .ok (.value (Str l)) w := by
  unfold execOp
  simp only [ho, hx, Sem.run_bind, run_str w v l h, Result.andThen_ok, Sem.run_pure]
theorem exec_eq9 {o : Oper} {ρ : Operand → Value} (p q : Operand) (t : TypeId) (ho : o.op = .binOp .eql 9 p q t) (l l' : List UInt8) (hp : ρ p = Str l) (hq : ρ q = Str l') (w : World) :
    (execOp ρ o).run Try.prog w = .ok (.value (.bool (decide (l = l')))) w := by
  have hg : Try.prog.eqGuardType Try.prog.depth 9 = false := by kernel_rfl
  unfold execOp
  simp only [ho, hp, hq]
  unfold Str
  simp [eqGuard, Sem.run_bind, hg, binOp_string_eql, ByteArray.toList_eq]
  by_cases h : l = l' <;> simp [h]

/-- A slice of our own, in a block that may bear a mark behind its last cell. -/
def OwnM (w : World) (v : Value) (l : List UInt8) : Prop :=
  ∃ g cap cur fr, v = .slice (some ⟨g, 0, none⟩) l.length cap ∧ w.heap[g]? = some (.cells cur 5 fr) ∧ l.length ≤ cap ∧ cap ≤ maxLen ∧ cur.size = cap ∧ cur.toList.take l.length = l.map B8 ∧ (fr = (0, 0) ∨ cap ≤ fr.1)
theorem OwnM.bs {w : World} {v : Value} {l : List UInt8} (h : OwnM w v l) : Bs w v l := by
  obtain ⟨g, cap, cur, fr, rfl, hg, h1, h2, h3, h4, h5⟩ := h
  refine Rd.lit (by simp) h1 h2 (Array.getElem?_eq_some_iff.1 hg).1 fun j u hj => ?_
  rw [Nat.zero_add, cell_of_row _ _ _ _ _ _ hg]
  rw [← h4, List.getElem?_take] at hj
  split at hj
  · simpa using hj
  · cases hj
theorem OwnM.ext {w w' : World} {v : Value} {l : List UInt8} (h : OwnM w v l) (hx : Ext w w') : OwnM w' v l := by
  obtain ⟨g, cap, cur, fr, h0, hg, h1⟩ := h
  exact ⟨g, cap, cur, fr, h0, (hx.block (Array.getElem?_eq_some_iff.1 hg).1).trans hg, h1⟩
theorem OwnM.lt {w : World} {v : Value} {l : List UInt8} (h : OwnM w v l) {g : Nat} (hv : v.ownBlock = some g) : g < w.heap.size := by
  obtain ⟨g', cap, cur, fr, rfl, hg, h1⟩ := h
  injection hv with e
  subst e
  exact (Array.getElem?_eq_some_iff.1 hg).1
theorem frozen_mark (w : World) (g j : Nat) (cur : Array Value) (t : TypeId) (fr : Nat × Nat) (hg : w.heap[g]? = some (.cells cur t fr)) (h : fr = (0, 0) ∨ j < fr.1) : w.frozen? ⟨g, j, none⟩ = false := by
  obtain ⟨lo, hi⟩ := fr
  unfold World.frozen?
  simp only [hg]
  rcases h with h | h
  · injection h with h1 h2; subst h1; subst h2; simp
  · have : ¬ lo ≤ j := by simp only at h; omega
    simp [this]
theorem run_storeCells_m (P : Program) (g o : Nat) (t : TypeId) (fr : Nat × Nat) (N : Nat) (hfr : fr = (0, 0) ∨ N ≤ fr.1) : ∀ (vs : List Value) (i : Nat) (cur : Array Value) (w : World), w.heap[g]? = some (.cells cur t fr) → o + i + vs.length ≤ cur.size → cur.size = N → (∀ v ∈ vs, v.oneCell' = true) →
    (storeCells ⟨g, o, none⟩ vs i).run P w = .ok () (w.setRow g (cur.toList.take (o + i) ++ vs ++ cur.toList.drop (o + i + vs.length)).toArray)
  | [], i, cur, w, hg, _, _, _ => by
    simp only [storeCells, List.append_nil, List.length_nil, Nat.add_zero, List.take_append_drop, Array.toArray_toList]
    rw [setRow_self w g cur t fr hg]
    rfl
  | v :: rest, i, cur, w, hg, hl, hN, h1 => by
    have hi : o + i < cur.size := by simp at hl; omega
    have hadd : (⟨g, o, none⟩ : Addr).add i = ⟨g, o + i, none⟩ := by unfold Addr.add; split <;> simp_all
    have hcell : w.cell? ⟨g, o + i, none⟩ = some cur[o + i] := by simp [World.cell?, hg, hi]
    have hfro : w.frozen? ⟨g, o + i, none⟩ = false := frozen_mark w g (o + i) cur t fr hg (hfr.imp id (fun h => by omega))
    have hst : (store ((⟨g, o, none⟩ : Addr).add i) v).run P w = .ok () (w.setRow g (cur.setIfInBounds (o + i) v)) := by
      rw [hadd, run_store P w _ v _ (h1 v (by simp)), hcell]
      simp [hfro, setCell_eq_setRow w g (o + i) cur t fr v hg]
    have ih := run_storeCells_m P g o t fr N hfr rest (i + 1) (cur.setIfInBounds (o + i) v) (w.setRow g (cur.setIfInBounds (o + i) v)) (setRow_heap w g cur _ t _ hg) (by simp at hl ⊢; omega) (by simpa using hN) (fun x hx => h1 x (by simp [hx]))
    simp only [storeCells, Sem.run_bind, hst, Result.andThen_ok, ih, setRow_setRow]
    congr 3
    have e := list_seg_step cur.toList (o + i) v rest (by simp at hl ⊢; omega)
    simpa [Array.toList_setIfInBounds, Nat.add_assoc] using e
theorem run_append_m (ty : TypeId) (w : World) (v : Value) (l : List UInt8) (hown : OwnM w v l) (y : Value) (l' : List UInt8) (hy : Bs w y l') (h63 : l.length + l'.length ≤ 4294967296) :
    ∃ v' w', (Builtin.append_ #[23, 23] ty #[v, y]).run Try.prog w = .ok v' w' ∧ OwnM w' v' (l ++ l') ∧ Grew w w' v ∧ (v'.ownBlock = v.ownBlock ∨ ∀ g, v'.ownBlock = some g → w.heap.size ≤ g) := by
  obtain ⟨i, hi, hz0, hz1, hz2⟩ := info_parts ei23.info
  obtain ⟨g, cap, cur, fr, rfl, hg, hnc, hcm, hcs, htake, hfr⟩ := hown
  obtain ⟨A, cap', rfl, hc1, hc2, hc3, hc4⟩ := hy.is
  have hOl : (l ++ l').length = l.length + l'.length := List.length_append
  by_cases h0 : l'.length = 0
  · have : l' = [] := List.eq_nil_of_length_eq_zero h0
    subst this
    refine ⟨.slice (some ⟨g, 0, none⟩) l.length cap, w, ?_, by rw [List.append_nil]; exact ⟨g, cap, cur, fr, rfl, hg, hnc, hcm, hcs, htake, hfr⟩, World.grownBy.refl _ _, .inl rfl⟩
    have hl0 : ∀ a : Addr, (loadCells a 0).run Try.prog w = .ok #[] w := fun a => by
      have := run_loadCells_list (P := Try.prog) w a [] (fun j v hj => by cases hj)
      simpa using this
    cases A <;> simp [Builtin.append_, run_underlying ei23.t, sizeOf, typeInfo, hi, Builtin.lenOf, Builtin.firstCells, hnc, storeCells, hl0]
  · obtain ⟨b, o, rfl, hb, hcell⟩ := hc4 (by omega)
    by_cases hroom : l.length + l'.length ≤ cap
    · have hf := run_firstCells_some (P := Try.prog) w i.size l'.length ⟨b, o, none⟩ l'.length cap' (l'.map B8) (by rw [hz1]; simp) (fun j u hj => by rw [Addr.add_lit]; exact hcell j u hj)
      rw [hz1] at hf
      have hst := run_storeCells_m Try.prog g l.length 5 fr cap hfr (l'.map B8) 0 cur w hg (by simp; omega) hcs (one_bytes _)
      simp only [Nat.add_zero] at hst
      refine ⟨.slice (some ⟨g, 0, none⟩) (l.length + l'.length) cap, w.setRow g (cur.toList.take l.length ++ l'.map B8 ++ cur.toList.drop (l.length + (l'.map B8).length)).toArray, ?_, ?_, ?_, .inl rfl⟩
      · simp [Builtin.append_, run_underlying ei23.t, sizeOf, typeInfo, hi, Builtin.lenOf, hroom, hz1, hf, Addr.add_lit, hst]
      · refine ⟨g, cap, _, fr, by rw [hOl], setRow_heap w g cur _ 5 _ hg, by rw [hOl]; exact hroom, hcm, ?_, ?_, hfr⟩
        · simp only [List.size_toArray, List.length_append, List.length_take, List.length_drop, Array.length_toList, List.length_map]
          omega
        · rw [htake, List.map_append]
          exact List.take_left' (by simp)
      · exact ⟨rfl, rfl, rfl, by simp, fun k _ hk => setRow_other w g k _ (fun e => hk (by rw [e]; rfl))⟩
    · have holds : ∀ j u, (l.map B8)[j]? = some u → w.cell? ((⟨g, 0, none⟩ : Addr).add j) = some u := fun j u hj => by
        rw [Addr.add_lit, Nat.zero_add, cell_of_row _ _ _ _ _ _ hg]
        rw [← htake, List.getElem?_take] at hj
        split at hj
        · simpa using hj
        · cases hj
      have hr := run_append_grow (P := Try.prog) w 23 ty 5 i _ ei23.t hi hz0 ⟨g, 0, none⟩ l.length cap (l.map B8) (by rw [hz1]; simp) holds ⟨b, o, none⟩ l'.length cap' (l'.map B8) (by rw [hz1]; simp) (fun j u hj => by rw [Addr.add_lit]; exact hcell j u hj) (by omega) (by omega) (growslice_fits (by omega) (by rw [hz2]; omega))
      refine ⟨_, _, hr, ?_, ⟨rfl, rfl, rfl, by simp, fun k hk _ => heap_alloc_old w.drew _ hk⟩, .inr fun g' hv => by injection hv with e1; subst e1; exact Nat.le_refl _⟩
      refine ⟨w.heap.size, _, _, (0, 0), by rw [hOl], heap_alloc_new w.drew _, by rw [hOl]; exact grownCap_ge w _ cap 5, grownCap_le_maxLen w _ cap 5 (by unfold maxLen; omega), ?_, ?_, .inl rfl⟩
      · have := grownCap_ge w (l.length + l'.length) cap 5
        simp only [Array.size_append, size_zeroCells, Value.cells, List.size_toArray, List.length_map]
        simp
        omega
      · simp only [Array.toList_append, List.map_append]
        exact List.take_left' (by simp)
theorem wpList_append_m {ops : Array Oper} {rest : List Oper} {o : Oper} {a : Act} {w : World} {Q : Exit → Act → World → Prop} (hgd : o.guard = none)
    (s x : Operand) (ho : o.op = .call { callee := .builtin .append, args := #[s, x], argTypes := #[23, 23] }) (v : Value) (hs : a.eval s = v) {l : List UInt8} (hown : OwnM w v l)
    (y : Value) (hx : a.eval x = y) {l' : List UInt8} (hy : Bs w y l') (h63 : l.length + l'.length ≤ 4294967296)
    (hK : ∀ v' w', OwnM w' v' (l ++ l') → Grew w w' v → (v'.ownBlock = v.ownBlock ∨ ∀ g, v'.ownBlock = some g → w.heap.size ≤ g) → wpList Try.prog ops Q rest (a.put o.dst v') w') : wpList Try.prog ops Q (o :: rest) a w := by
  refine wpList_plain hgd fun K hKK => ?_
  obtain ⟨v', w', hr, h2, h3, h4⟩ := run_append_m o.type w v l hown y l' hy h63
  unfold Oper.wp execOp
  simp only [ho, resolve, invoke, builtin, Sem.run_bind, Sem.run_pure, Result.andThen_ok, List.map_toArray, List.map_cons, List.map_nil, hs, hx, hr]
  exact hKK _ _ (hK v' w' h2 h3 h4)
/-- New bytes that may be appended to, in such a block. -/
structure NewM (w : World) (v : Value) (l : List UInt8) (w' : World) : Prop where
  own : OwnM w' v l
  ext : Ext w w'
  fr : ∀ g, v.ownBlock = some g → w.heap.size ≤ g
theorem NewM.bs {w w' : World} {v : Value} {l : List UInt8} (h : NewM w v l w') : Bs w' v l := h.own.bs
theorem NewM.grow {w w1 w2 : World} {v : Value} {l : List UInt8} (h : NewM w v l w1) (hx : Ext w1 w2) : NewM w v l w2 := ⟨h.own.ext hx, h.ext.trans hx, h.fr⟩
theorem NewM.app {w w1 w2 : World} {v v' : Value} {l l' : List UInt8} (h : NewM w v l w1) (ho : OwnM w2 v' l') (hg : Grew w1 w2 v) (hf : v'.ownBlock = v.ownBlock ∨ ∀ g, v'.ownBlock = some g → w1.heap.size ≤ g) : NewM w v' l' w2 := by
  refine ⟨ho, ?_, fun g hv => ?_⟩
  · exact (Chg.trans (S := fun _ => False) (Chg.of_ext h.ext _) (Chg.of_grew hg) (fun i hi e => by have := h.fr i e.symm; omega)).ext fun k hk => hk.elim
  · rcases hf with e | e
    · exact h.fr g (e ▸ hv)
    · exact Nat.le_trans h.ext.size (e g hv)
/-- []byte(s). -/
theorem wpl_bytes {ops : Array Oper} {rest : List Oper} {o : Oper} {a : Act} {w : World} {Q : Exit → Act → World → Prop} (hgd : o.guard = none) (x : Operand) (ho : o.op = .convert 9 23 x)
    (s : ByteArray) (hx : a.eval x = .string s) (l : List UInt8) (hl : s.data.toList = l) (h32 : l.length ≤ 4294967296)
    (h : ∀ v w', NewM w v l w' → wpList Try.prog ops Q rest (a.put o.dst v) w') : wpList Try.prog ops Q (o :: rest) a w := by
  refine wpList_plain hgd fun K hKK => ?_
  have hr := run_bytes_of_string (P := Try.prog) w 9 23 5 s Try.underlying9 Try.underlying23 Try.underlying5
  have hsz : s.size = l.length := by rw [← hl, Array.length_toList]; rfl
  unfold Oper.wp execOp
  simp only [ho, hx, Sem.run_bind, hr, Result.andThen_ok, Sem.run_pure, Oper.upon]
  refine hKK _ _ (h _ _ ⟨⟨w.heap.size, grownCap w s.size 0 5, bytesRow s (grownCap w s.size 0 5), _, by rw [hsz], heap_alloc_new w.drew _, ?_, ?_, ?_, ?_, .inr ?_⟩, ⟨rfl, rfl, rfl, by simp, fun k hk => heap_alloc_old w.drew _ hk⟩, fun g hg => by injection hg with e; subst e; exact Nat.le_refl _⟩)
  · rw [← hsz]; exact grownCap_ge w s.size 0 5
  · exact grownCap_le_maxLen w s.size 0 5 (by unfold maxLen; omega)
  · have := grownCap_ge w s.size 0 5
    have h2 : s.data.size = s.size := rfl
    simp only [bytesRow, Array.size_append, Array.size_map, Array.size_replicate]
    omega
  · have h2 : s.data.size = s.size := rfl
    simp only [bytesRow, Array.toList_append, Array.toList_map, hl]
    exact List.take_left' (by simp)
  · have := grownCap_ge w s.size 0 5
    have h2 : s.data.size = s.size := rfl
    simp only [bytesRow, Array.size_append, Array.size_map, Array.size_replicate]
    omega
end Go.Proofs.Ytapojpjmeadabaa

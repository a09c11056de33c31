/- sacristanlaw02.known: the hash of three bytes. -/
import Derived.Test.YtapojpjmeadabaaEqs
import Derived.Lib.SlBytesConst
namespace Go.Proofs.Ytapojpjmeadabaa
open Go.RowKit
set_option linter.unusedVariables false
set_option linter.unusedSimpArgs false
attribute [local go_sem] lt_ext cell?_ext frozen?_ext shape?_ext

/-- A slice of slices, written out. -/
theorem Rss.lit (w : World) (us : List Value) (ls : List (List UInt8)) (c : Array Value) (hc : c = us.toArray) (n : Nat) (hn : n = us.length) (hls : ls.length = us.length) (hm : us.length ≤ 4294967296)
    (h : ∀ i, i < ls.length → ∃ u, us[i]? = some u ∧ Bs w u (ls.getD i [])) : Rss (w.alloc (.cells c 23)) (.slice (some ⟨w.heap.size, 0, none⟩) n n) us ls := by
  subst hc
  subst hn
  have hrd : Rd (w.alloc (.cells us.toArray 23)) 1 (.slice (some ⟨w.heap.size, 0, none⟩) us.length us.length) us.length us := by
    refine Rd.lit (by simp) (Nat.le_refl _) (Nat.le_trans hm (by unfold maxLen; decide)) (by simp) fun j u hj => ?_
    rw [Nat.zero_add, cell_of_row _ _ _ _ _ _ (heap_alloc_last w _)]
    simpa using hj
  refine ⟨by rw [hls]; exact hrd, fun i hi => ?_⟩
  obtain ⟨u, h1, h2⟩ := h i hi
  exact ⟨u, h1, Rd.ext h2 ((Ext.refl w).alloc _)⟩
theorem Rss.one (w : World) (u : Value) (l : List UInt8) (h : Bs w u l) : Rss (w.alloc (.cells #[u] 23)) (.slice (some ⟨w.heap.size, 0, none⟩) 1 1) [u] [l] :=
  Rss.lit w [u] [l] _ rfl 1 rfl rfl (by simp) fun i hi => by
    obtain rfl : i = 0 := by simpa using hi
    exact ⟨u, rfl, h⟩
theorem Rss.two (w : World) (u u' : Value) (l l' : List UInt8) (h : Bs w u l) (h' : Bs w u' l') : Rss (w.alloc (.cells #[u, u'] 23)) (.slice (some ⟨w.heap.size, 0, none⟩) 2 2) [u, u'] [l, l'] :=
  Rss.lit w [u, u'] [l, l'] _ rfl 2 rfl rfl (by simp) fun i hi => by
    have hi' : i < 2 := by simpa using hi
    rcases (show i = 0 ∨ i = 1 by omega) with rfl | rfl
    · exact ⟨u, rfl, h⟩
    · exact ⟨u', rfl, h'⟩
theorem Bs.lit_marked (w : World) (c : Array Value) (fr : Nat × Nat) (l : List UInt8) (hc : c = (l.map B8).toArray) (hl : l.length ≤ 4294967296) : Bs (w.alloc (.cells c 5 fr)) (.slice (some ⟨w.heap.size, 0, none⟩) l.length l.length) l := by
  subst hc
  refine Rd.lit (by simp) (Nat.le_refl _) (Nat.le_trans hl (by unfold maxLen; decide)) (by simp) fun j u hj => ?_
  rw [Nat.zero_add, cell_of_row _ _ _ _ _ _ (heap_alloc_last w _)]
  simpa using hj
/-- An operation whose value and world are known. -/
theorem wpl_vw {P : Program} {ops : Array Oper} {rest : List Oper} {o : Oper} {a : Act} {w : World} {Q : Exit → Act → World → Prop} (hw : Region.wanted o (yielded ops a.tmps) = true) (v : Value) (w' : World)
    (hr : (execOp a.eval o).run P w = .ok (.value v) w') (h : wpList P ops Q rest (a.put o.dst v) w') : wpList P ops Q (o :: rest) a w :=
  wpList_step fun K hK => by
    rw [if_pos hw]
    unfold Oper.wp
    rw [hr]
    exact hK _ _ h
theorem exec_conv23 {o : Oper} {ρ : Operand → Value} (x : Operand) (ho : o.op = .convert 23 23 x) (w : World) (C : Array Value) (n c : Nat) (hx : ρ x = .slice (some ⟨w.heap.size, 0, none⟩) n c) :
    (execOp ρ o).run Try.prog (w.alloc (.cells C 5)) = .ok (.value (.slice (some ⟨w.heap.size, 0, none⟩) n c)) (w.alloc (.cells C 5 (C.size, C.size + 1))) := by
  unfold execOp
  simp only [ho, hx]
  rw [Sem.run_bind, Lib.run_convert_bytes_const w 23 5 C n c Try.underlying23 Try.underlying5]
  rfl
/-- []byte("..") of a constant: new bytes. -/
theorem wpl_conv23 {ops : Array Oper} {rest : List Oper} {o : Oper} {a : Act} {w : World} {Q : Exit → Act → World → Prop} (hw : Region.wanted o (yielded ops a.tmps) = true) (x : Operand) (ho : o.op = .convert 23 23 x)
    (l : List UInt8) (n : Nat) (hn : n = l.length) (C : Array Value) (hC : C = (l.map B8).toArray) (hl : l.length ≤ 4294967296) (hx : a.eval x = .slice (some ⟨w.heap.size, 0, none⟩) n n)
    (h : ∀ w' v, Bs w' v l → Ext w w' → wpList Try.prog ops Q rest (a.put o.dst v) w') : wpList Try.prog ops Q (o :: rest) a (w.alloc (.cells C 5)) :=
  wpl_vw hw _ _ (exec_conv23 x ho w C n n hx) (h _ _ (by subst hn; exact Bs.lit_marked w C _ l hC hl) ((Ext.refl w).alloc _))
theorem abc_cells (D : List UInt8) (hD : Hid (D = Sha.sum [97, 98, 99])) (w : World) (g : Nat) (h : w.heap[g]? = some (.cells (row8 D) 27 (0, 0))) :
    w.cell? ⟨g, 0, none⟩ = some (.int .u8 186) ∧ w.cell? ⟨g, 1, none⟩ = some (.int .u8 120) ∧ w.cell? ⟨g, 31, none⟩ = some (.int .u8 173) := by
  rw [hD.out, Sha.sum_abc] at h
  refine ⟨?_, ?_, ?_⟩ <;> (rw [cell_of_row _ _ _ _ _ _ h]; rfl)
theorem sum_abc_any (D : List UInt8) (hD : Hid (D = Sha.sum [97, 98, 99])) (lv : Value) (vs : List Value) (w : World) (hL : Rss w lv vs [[97, 98, 99]]) :
    Calls Try.prog 30 #[lv] w fun e w' => e = .returned (Dig D) ∧ Ext w w' := by
  have h := sum_any lv vs [[97, 98, 99]] w hL (by decide)
  rw [show ([[97, 98, 99]] : List (List UInt8)).flatten = [97, 98, 99] from rfl, ← hD.out] at h
  exact h
set_option maxRecDepth 100000 in
set_option maxHeartbeats 1000000 in
theorem known_of (D : List UInt8) (hD : Hid (D = Sha.sum [97, 98, 99])) (h32 : D.length = 32) (w : World) : Calls Try.prog 29 #[] w fun e w' => e = .returned (.bool true) ∧ Ext w w' := by
  go_enter Try.func29, Try.ntmps29
  go_wp2_with (first | (refine wpl_conv23 rfl _ rfl [97, 98, 99] 3 rfl _ rfl (by decide) rfl ?_; intro wa va hba hxa; obtain ⟨A, cap, rfl, _, _, _, _⟩ := hba.is; have HBA := Lib.hid hba; have HXA := Lib.hid hxa; clear hba hxa) | (go_at_call 30; go_must (refine (sum_abc_any D hD _ _ _ (Rss.one wa _ [97, 98, 99] HBA.out)).mono ?_; rintro e w1 ⟨rfl, hx1⟩; have HX1 := Lib.hid ((HXA.out.alloc _).trans hx1); clear hx1)) | (refine wpl_alloc_agg rfl 27 rfl _ zero27.1 ?_) | (refine wpl_store27 rfl _ _ rfl w1.heap.size D (Sha.zeros 32) rfl rfl h32 (by simp [Sha.zeros]) (heap_alloc_last w1 _) ?_; intro w2 h2 hu2; have HX2 := Lib.hid (HX1.out.trans (((Ext.refl w1).alloc _).upd_new hu2 (Nat.le_refl _))); obtain ⟨c0, c1, c31⟩ := abc_cells D hD w2 w1.heap.size h2; have hs2 : w1.heap.size < w2.heap.size := (Array.getElem?_eq_some_iff.1 h2).1; clear h2 hu2) | (go_at_call 34; go_must (refine (hsum_nil _).mono ?_; rintro e w3 ⟨rfl, hx3⟩; have HX3 := Lib.hid (HX2.out.trans hx3); clear hx3)) | (refine wpl_v (by rfl) _ (exec_eq27 _ _ _ rfl (Sha.zeros 32) (Sha.zeros 32) rfl rfl (by simp [Sha.zeros]) (by simp [Sha.zeros]) _) ?_))
  go_ret
  exact ⟨rfl, HX3.out⟩
theorem known_any (w : World) : Calls Try.prog 29 #[] w fun e w' => e = .returned (.bool true) ∧ Ext w w' := known_of (Sha.sum [97, 98, 99]) (Lib.hid rfl) (Sha.sum_length _) w
end Go.Proofs.Ytapojpjmeadabaa

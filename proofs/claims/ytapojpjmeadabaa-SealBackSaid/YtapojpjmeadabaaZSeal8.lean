/- Seal8, Seal9, Seal10, Seal11: several texts in one. -/
import Derived.Test.YtapojpjmeadabaaZSeal5
import Derived.Test.YtapojpjmeadabaaZSeal1
import Derived.Test.YtapojpjmeadabaaZMac3
section
/- seal.Flip. -/
namespace Go.Proofs.Ytapojpjmeadabaa
open Go.RowKit
set_option linter.unusedVariables false
set_option linter.unusedSimpArgs false
attribute [local go_sem] lt_ext cell?_ext frozen?_ext shape?_ext
attribute [local go_sem] u8_xor u8_or i8_mod u8_wrap

/-- A bit turned. -/
def flipN (sl : List UInt8) (k : Nat) : List UInt8 := sl.set (k / 8) (UInt8.ofNat ((sl.getD (k / 8) 0).toNat ^^^ 2 ^ (k % 8)))
theorem NewB.from {w w1 w2 : World} {v : Value} {l : List UInt8} (h : NewB w1 v l w2) (hx : Ext w w1) : NewB w v l w2 := ⟨h.own, hx.trans h.ext, fun g hg => Nat.le_trans hx.size (h.fr g hg)⟩
theorem NewD.from {w w1 w2 : World} {v : Value} {l : List (List UInt8)} (h : NewD w1 v l w2) (hx : Ext w w1) : NewD w v l w2 := ⟨h.own, hx.trans h.ext, fun g hg => Nat.le_trans hx.size (h.fr g hg), h.all⟩
theorem NewB.fin {w W0 W1 W2 W3 : World} {v : Value} {l : List UInt8} {g g' : Nat} (h : NewB W0 v l W1) (hx : Ext w W0) (hu : Upd W1 W2 g) (hg : w.heap.size ≤ g) (hg2 : g < W0.heap.size) (hu' : Upd W2 W3 g') (hg' : w.heap.size ≤ g') (hg2' : g' < W0.heap.size) : NewB w v l W3 :=
  ⟨(h.own.keep hu (fun e => by have := h.fr g e; omega)).keep hu' (fun e => by have := h.fr g' e; omega), ((hx.trans h.ext).upd_new hu hg).upd_new hu' hg', fun k hk => Nat.le_trans hx.size (h.fr k hk)⟩
theorem NewD.fin {w W0 W1 W2 W3 : World} {v : Value} {l : List (List UInt8)} {g g' : Nat} (h : NewD W0 v l W1) (hx : Ext w W0) (hu : Upd W1 W2 g) (hg : w.heap.size ≤ g) (hg2 : g < W0.heap.size) (hu' : Upd W2 W3 g') (hg' : w.heap.size ≤ g') (hg2' : g' < W0.heap.size) : NewD w v l W3 :=
  ⟨(h.own.keep hu (fun e => by have := h.fr g e; omega)).keep hu' (fun e => by have := h.fr g' e; omega), ((hx.trans h.ext).upd_new hu hg).upd_new hu' hg', fun k hk => Nat.le_trans hx.size (h.fr k hk), h.all⟩
def NewBR (w0 : World) (l : List UInt8) (u : Value) (w : World) : Prop := NewB w0 u l w
theorem NewBR.ext {w0 : World} {l : List UInt8} (u : Value) (w w' : World) (hx : Ext w w') (h : NewBR w0 l u w) : NewBR w0 l u w' := NewB.grow h hx
def NewDR (w0 : World) (l : List (List UInt8)) (u : Value) (w : World) : Prop := NewD w0 u l w
theorem NewDR.ext {w0 : World} {l : List (List UInt8)} (u : Value) (w w' : World) (hx : Ext w w') (h : NewDR w0 l u w) : NewDR w0 l u w' := NewD.grow h hx
def row68 (n b s g : Value) : Array Value := #[n, b, s, g]
theorem size68 (n b s g : Value) : (Try.prog.info? 68).map (·.size) = some (row68 n b s g).size := by
  have h : (Try.prog.info? 68).map (·.size) = some 4 := by kernel_rfl
  exact h
theorem exec_move {o : Oper} {ρ : Operand → Value} (x : Operand) (ho : o.op = .move x) (v : Value) (hx : ρ x = v) (w : World) : (execOp ρ o).run Try.prog w = .ok (.value v) w := by
  unfold execOp
  simp only [ho, hx]
  rfl
theorem wpl_skip {ops : Array Oper} {rest : List Oper} {o : Oper} {a : Act} {w : World} {Q : Exit → Act → World → Prop} (hgd : o.guard = none) (T : TypeId) (x y : Operand) (ho : o.op = .store T x y) (w' : World)
    (hr : (execOp a.eval o).run Try.prog w = .ok .skip w') (h : wpList Try.prog ops Q rest (a.put o.dst undef) w') : wpList Try.prog ops Q (o :: rest) a w :=
  wpList_plain hgd fun K hK => by
    unfold Oper.wp
    rw [hr]
    exact hK _ _ h
theorem wpl_load68 {ops : Array Oper} {rest : List Oper} {o : Oper} {a : Act} {w : World} {Q : Exit → Act → World → Prop} (hgd : o.guard = none) (x : Operand) (ho : o.op = .load 68 x)
    (g : Nat) (hx : a.eval x = .pointer (some ⟨g, 0, none⟩)) (n b s g' : Value) (hg : w.heap[g]? = some (.cells (row68 n b s g') 68 (0, 0)))
    (h : wpList Try.prog ops Q rest (a.put o.dst (.agg (row68 n b s g'))) w) : wpList Try.prog ops Q (o :: rest) a w :=
  wpList_load_row hgd 68 x ho g hx 68 _ (0, 0) _ hg Try.underlying68 rfl (size68 _ _ _ _) h
theorem wpl_store68 {ops : Array Oper} {rest : List Oper} {o : Oper} {a : Act} {w : World} {Q : Exit → Act → World → Prop} (hgd : o.guard = none) (x y : Operand) (ho : o.op = .store 68 x y)
    (g : Nat) (n b s g' n0 b0 s0 g0 : Value) (hx : a.eval x = .pointer (some ⟨g, 0, none⟩)) (hy : a.eval y = .agg (row68 n b s g')) (h1 : (row68 n b s g').all (·.oneCell') = true) (hg : w.heap[g]? = some (.cells (row68 n0 b0 s0 g0) 68 (0, 0)))
    (h : ∀ w', w'.heap[g]? = some (.cells (row68 n b s g') 68 (0, 0)) → Upd w w' g → wpList Try.prog ops Q rest (a.put o.dst undef) w') : wpList Try.prog ops Q (o :: rest) a w :=
  wpList_store_row hgd 68 x y ho g _ hx hy 68 _ hg (size68 _ _ _ _) rfl h1
    (h _ (setRow_heap _ _ _ _ _ _ hg) ⟨rfl, rfl, rfl, by simp, fun k _ hk => setRow_other w g k _ (fun e => hk (by rw [e]))⟩)
theorem ret68 {fn : Func} {p : Tmp} {R : Ending → World → Prop} {a : Act} {w : World} (hr : fn.results = #[.cell p 68]) (g : Nat) (n b s g' : Value)
    (hp : a.tmps.getD p undef = .pointer (some ⟨g, 0, none⟩)) (hg : w.heap[g]? = some (.cells (row68 n b s g') 68 (0, 0))) (hd : a.defers = []) (hR : R (.returned (.agg (row68 n b s g'))) w) : bodyPost Try.prog fn R .ret a w :=
  bodyPost_ret (results_cell_row hr a.tmps w g 68 _ (0, 0) _ hp hg Try.underlying68 rfl (size68 _ _ _ _)) hd hR
theorem xor_fin : ∀ (x : Fin 256) (r : Fin 8), bits .xor .u8 ((x.1 : Nat) : Int) (2 ^ r.1 % 256) = (((x.1 ^^^ 2 ^ r.1) % 256 : Nat) : Int) := by decide +kernel
theorem xor_bit (x : UInt8) (r : Nat) (hr : r < 8) : bits .xor .u8 (i8 x) (2 ^ r % 256) = i8 (UInt8.ofNat (x.toNat ^^^ 2 ^ r)) := by
  have h := xor_fin ⟨x.toNat, x.toNat_lt⟩ ⟨r, hr⟩
  rw [show i8 x = ((x.toNat : Nat) : Int) from rfl]
  rw [h]
  exact (i8_ofNat _).symm
theorem OwnB.set {w : World} {v : Value} {l : List UInt8} (h : OwnB w v l) (j : Nat) (hj : j < l.length) :
    ∃ g cap, v = .slice (some ⟨g, 0, none⟩) l.length cap ∧ w.cell? ⟨g, j, none⟩ = some (B8 (l.getD j 0)) ∧ w.frozen? ⟨g, j, none⟩ = false ∧ g < w.heap.size ∧ v.ownBlock = some g ∧ (∃ cur, w.heap[g]? = some (.cells cur 5 (0, 0))) ∧ ∀ y : UInt8, OwnB (w.setCell ⟨g, j, none⟩ (B8 y)) v (l.set j y) := by
  obtain ⟨hl, h2⟩ := h
  rcases h2 with ⟨rfl, h0⟩ | ⟨g, cap, cur, rfl, hb, hg, h1, h2, hs, ht⟩
  · omega
  · have hcj : cur[j]? = some (B8 (l.getD j 0)) := by
      have e := congrArg (fun L : List Value => L[j]?) ht
      simp only [List.getElem?_take, List.getElem?_map] at e
      rw [if_pos (by omega)] at e
      rw [← Array.getElem?_toList, e, List.getElem?_eq_getElem hj]
      simp [List.getElem?_eq_getElem hj]
    refine ⟨g, cap, rfl, by rw [cell_of_row _ _ _ _ _ _ hg]; exact hcj, frozen_of_row _ _ _ _ _ hg, (Array.getElem?_eq_some_iff.1 hg).1, rfl, ⟨cur, hg⟩, fun y => ?_⟩
    refine ⟨by simp, .inr ⟨g, cap, cur.setIfInBounds j (B8 y), by rw [List.length_set], hb, heap_setCell_same _ _ j _ _ (B8 y) hg, by rw [List.length_set]; exact h1, h2, by simpa using hs, ?_⟩⟩
    rw [List.length_set, Array.toList_setIfInBounds, List.take_set, ht, List.map_set]
set_option maxRecDepth 100000 in
set_option maxHeartbeats 2000000 in
theorem flip_out (num : Nat) (blk z : Int) (sl : List UInt8) (su : List (List UInt8)) (sv gv : Value) (w : World) (hS : Bs w sv sl) (hG : Dgs w gv su) (hl : sl.length ≤ 4294967296) (hl2 : su.length ≤ 4294967296)
    (hz0 : -9223372036854775808 ≤ z) (hz1 : z ≤ 9223372036854775807) (hz : z < 0 ∨ blk ≤ z ∨ (sl.length : Int) ≤ z / 8) :
    Calls Try.prog 69 #[.agg #[.int .u64 (num : Int), .int .i64 blk, sv, gv], .int .i64 z] w fun e w' => ∃ v7 v10, e = .returned (.agg #[.int .u64 (num : Int), .int .i64 blk, v7, v10]) ∧ NewB w v7 sl w' ∧ NewD w v10 su w' := by
  obtain ⟨A, cap, rfl, _, _, _, _⟩ := hS.is
  obtain ⟨A2, cap2, rfl, _, _, _, _⟩ := hG.rd.is
  have hs0 : (w.alloc (.cells #[.int .u64 (num : Int), .int .i64 blk, .slice A sl.length cap, .slice A2 su.length cap2] 68)).heap.size = w.heap.size + 1 := by simp
  have HXS := Lib.hid ((Ext.refl w).alloc (.cells #[.int .u64 (num : Int), .int .i64 blk, .slice A sl.length cap, .slice A2 su.length cap2] 68))
  have HS0 := Lib.hid hS
  have HG0 := Lib.hid hG
  clear hS hG hs0
  go_enter Try.func69, Try.ntmps69
  go_wp2
  obtain ⟨W0, hW0⟩ : ∃ W0, (w.alloc (.cells #[.int .u64 (num : Int), .int .i64 blk, .slice A sl.length cap, .slice A2 su.length cap2] 68)).alloc (.cells #[.int .u64 0, .int .i64 0, .slice none 0 0, .slice none 0 0] 68) = W0 := ⟨_, rfl⟩
  have hx0 : Ext w W0 := by rw [← hW0]; exact ((Ext.refl w).alloc _).alloc _
  have hs0 : W0.heap.size = w.heap.size + 2 := by rw [← hW0]; simp
  have hb0 : W0.heap[w.heap.size]? = some (.cells #[.int .u64 (num : Int), .int .i64 blk, .slice A sl.length cap, .slice A2 su.length cap2] 68 (0, 0)) := by
    rw [← hW0]
    exact (((Ext.refl (w.alloc (.cells #[.int .u64 (num : Int), .int .i64 blk, .slice A sl.length cap, .slice A2 su.length cap2] 68))).alloc _).block (by simp)).trans (heap_alloc_last w _)
  have hb1 : W0.heap[w.heap.size + 1]? = some (.cells #[.int .u64 0, .int .i64 0, .slice none 0 0, .slice none 0 0] 68 (0, 0)) := by
    rw [← hW0]
    have h := heap_alloc_last (w.alloc (.cells #[.int .u64 (num : Int), .int .i64 blk, .slice A sl.length cap, .slice A2 su.length cap2] 68)) (.cells #[.int .u64 0, .int .i64 0, .slice none 0 0, .slice none 0 0] 68)
    rw [World.size_alloc] at h
    exact h
  rw [hW0]
  clear hW0
  have HS : Hid (Bs W0 (.slice A sl.length cap) sl) := Lib.hid (Rd.ext HS0.out hx0)
  have HG : Hid (Dgs W0 (.slice A2 su.length cap2) su) := Lib.hid (HG0.out.ext hx0)
  have HB0 := Lib.hid hb0
  have HB1 := Lib.hid hb1
  have HX0 := Lib.hid hx0
  have c2 : W0.cell? ⟨w.heap.size, 2, none⟩ = some (.slice A sl.length cap) := by rw [cell_of_row _ _ _ _ _ _ hb0]; rfl
  have c3 : W0.cell? ⟨w.heap.size, 3, none⟩ = some (.slice A2 su.length cap2) := by rw [cell_of_row _ _ _ _ _ _ hb0]; rfl
  clear hb0 hb1 hx0
  refine wp_region_mt 7 (by kernel_rfl) (by kernel_rfl) ?_
  try simp only [Act.put, List.setIfInBounds_toArray, List.set_cons_succ, List.set_cons_zero]
  simp only [List.take_succ_cons, List.take_zero]
  repeat (refine gq rfl rfl rfl rfl (fun K hK => ?_); go_big_quiet_op; refine hK _ ?_; clear hK K)
  refine gcp rfl rfl rfl rfl 107 #[.slice A sl.length cap] (fun _ => by go_simp) 7 rfl (NewBR W0 sl) NewBR.ext (fun y => (clone_any _ sl _ (Rd.ext HS.out (ext_ext W0 y)) hl).mono (fun e w' ⟨v, he, hn⟩ => ⟨v, he, hn.from (ext_ext W0 y), hn.ext⟩)) ?_
  simp only [Act.put, List.setIfInBounds_toArray, List.set_cons_succ, List.set_cons_zero]
  repeat (refine gq rfl rfl rfl rfl (fun K hK => ?_); go_big_quiet_op; refine hK _ ?_; clear hK K)
  refine gcp rfl rfl rfl rfl 108 #[.slice A2 su.length cap2] (fun _ => by go_simp) 10 rfl (NewDR W0 su) NewDR.ext (fun y => (cloned_any _ su _ (HG.out.ext (ext_ext W0 y)) hl2).mono (fun e w' ⟨v, he, hn⟩ => ⟨v, he, hn.from (ext_ext W0 y), hn.ext⟩)) ?_
  simp only [Act.put, List.setIfInBounds_toArray, List.set_cons_succ, List.set_cons_zero]
  repeat (refine gq rfl rfl rfl rfl (fun K hK => ?_); go_big_quiet_op; refine hK _ ?_; clear hK K)
  refine gm_end_at rfl [(10, NewDR W0 su), (7, NewBR W0 sl)] rfl (fun xs y hk => ?_)
  have h7 : NewB W0 (xs 7) sl (W0.ext y) := hk 7 (by simp) _ rfl
  have h10 : NewD W0 (xs 10) su (W0.ext y) := hk 10 (by simp) _ rfl
  clear hk
  simp only [fillM, Act.put, List.setIfInBounds_toArray, List.set_cons_succ, List.set_cons_zero]
  simp only [List.drop_succ_cons, List.drop_zero]
  have hxy : Ext W0 (W0.ext y) := ext_ext W0 y
  generalize xs 7 = v7 at *
  generalize xs 10 = v10 at *
  generalize W0.ext y = W1 at *
  obtain ⟨A7, c7, e7, _, _, _, _⟩ := h7.bs.is
  obtain ⟨A10, c10, e10, _, _, _, _⟩ := h10.dgs.rd.is
  rw [e7, e10]
  rw [e7] at h7
  rw [e10] at h10
  have HN7 := Lib.hid h7
  have HN10 := Lib.hid h10
  have hbx : W1.heap[w.heap.size]? = some (.cells #[.int .u64 (num : Int), .int .i64 blk, .slice A sl.length cap, .slice A2 su.length cap2] 68 (0, 0)) := (hxy.block (by omega)).trans HB0.out
  have hby : W1.heap[w.heap.size + 1]? = some (.cells #[.int .u64 0, .int .i64 0, .slice none 0 0, .slice none 0 0] 68 (0, 0)) := (hxy.block (by omega)).trans HB1.out
  have hc2 : W1.cell? ⟨w.heap.size, 2, none⟩ = some (.slice A sl.length cap) := by rw [cell_of_row _ _ _ _ _ _ hbx]; rfl
  have hc3 : W1.cell? ⟨w.heap.size, 3, none⟩ = some (.slice A2 su.length cap2) := by rw [cell_of_row _ _ _ _ _ _ hbx]; rfl
  have hf2 : W1.frozen? ⟨w.heap.size, 2, none⟩ = false := frozen_of_row _ _ _ _ _ hbx
  have hf3 : W1.frozen? ⟨w.heap.size, 3, none⟩ = false := frozen_of_row _ _ _ _ _ hbx
  obtain ⟨W2, hW2⟩ : ∃ W2, (W1.setCell ⟨w.heap.size, 2, none⟩ (.slice A7 sl.length c7)).setCell ⟨w.heap.size, 3, none⟩ (.slice A10 su.length c10) = W2 := ⟨_, rfl⟩
  have hb2 : W2.heap[w.heap.size]? = some (.cells #[.int .u64 (num : Int), .int .i64 blk, .slice A7 sl.length c7, .slice A10 su.length c10] 68 (0, 0)) := by
    rw [← hW2]
    have h1 := heap_setCell_same _ _ 2 _ _ (.slice A7 sl.length c7) hbx
    have h2 := heap_setCell_same _ _ 3 _ _ (.slice A10 su.length c10) h1
    exact h2
  have hb3 : W2.heap[w.heap.size + 1]? = some (.cells #[.int .u64 0, .int .i64 0, .slice none 0 0, .slice none 0 0] 68 (0, 0)) := by
    rw [← hW2]
    exact other_cell (other_cell hby (by omega)) (by omega)
  have hu : Upd W1 W2 w.heap.size := by rw [← hW2]; exact ((Upd.of_ext (Ext.refl W1) w.heap.size).setCell (p := ⟨w.heap.size, 2, none⟩) (.inl rfl) _).setCell (p := ⟨w.heap.size, 3, none⟩) (.inl rfl) _
  have HW2 := Lib.hid hW2
  have HB2 := Lib.hid hb2
  have HB3 := Lib.hid hb3
  have HU := Lib.hid hu
  have HXY := Lib.hid hxy
  clear hW2 hb2 hb3 hu hbx hby hxy e7 e10 h7 h10
  refine wpl_skip rfl 23 (.tmp 11) (.tmp 7) rfl (W1.setCell ⟨w.heap.size, 2, none⟩ (.slice A7 sl.length c7)) (by go_simp) ?_
  simp only [Act.put, List.setIfInBounds_toArray, List.set_cons_succ, List.set_cons_zero]
  refine wpl_exec rfl (.pointer (some ⟨w.heap.size, 3, none⟩)) (by go_simp) ?_
  simp only [Act.put, List.setIfInBounds_toArray, List.set_cons_succ, List.set_cons_zero]
  refine wpl_skip rfl 66 (.tmp 12) (.tmp 10) rfl ((W1.setCell ⟨w.heap.size, 2, none⟩ (.slice A7 sl.length c7)).setCell ⟨w.heap.size, 3, none⟩ (.slice A10 su.length c10)) (by go_simp) ?_
  simp only [Act.put, List.setIfInBounds_toArray, List.set_cons_succ, List.set_cons_zero]
  rw [HW2.out]
  have k1 : W2.cell? ⟨w.heap.size, 1, none⟩ = some (.int .i64 blk) := by rw [cell_of_row _ _ _ _ _ _ HB2.out]; rfl
  have k2 : W2.cell? ⟨w.heap.size, 2, none⟩ = some (.slice A7 sl.length c7) := by rw [cell_of_row _ _ _ _ _ _ HB2.out]; rfl
  clear hc2 hc3 hf2 hf3 c2 c3
  rcases hz with hz | hz | hz
  · go_wp2_with (first | (refine wpl_load68 rfl _ rfl w.heap.size rfl _ _ _ _ HB2.out ?_; have TN : True := trivial) | (clear TN; go_must (refine wpl_store68 rfl _ _ rfl (w.heap.size + 1) (.int .u64 (num : Int)) (.int .i64 blk) (.slice A7 sl.length c7) (.slice A10 su.length c10) _ _ _ _ rfl rfl (by simp [row68, Value.oneCell']) HB3.out ?_; intro w8 h8 hu8; have H8 := Lib.hid h8; have HU8 := Lib.hid hu8; clear h8 hu8)))
    all_goals exact ret68 rfl (w.heap.size + 1) _ _ _ _ rfl H8.out rfl ⟨_, _, rfl, HN7.out.fin HX0.out HU.out (Nat.le_refl _) (by omega) HU8.out (by omega) (by omega), HN10.out.fin HX0.out HU.out (Nat.le_refl _) (by omega) HU8.out (by omega) (by omega)⟩
  · go_wp2_with (first | (refine wpl_load68 rfl _ rfl w.heap.size rfl _ _ _ _ HB2.out ?_; have TN : True := trivial) | (clear TN; go_must (refine wpl_store68 rfl _ _ rfl (w.heap.size + 1) (.int .u64 (num : Int)) (.int .i64 blk) (.slice A7 sl.length c7) (.slice A10 su.length c10) _ _ _ _ rfl rfl (by simp [row68, Value.oneCell']) HB3.out ?_; intro w8 h8 hu8; have H8 := Lib.hid h8; have HU8 := Lib.hid hu8; clear h8 hu8)))
    all_goals exact ret68 rfl (w.heap.size + 1) _ _ _ _ rfl H8.out rfl ⟨_, _, rfl, HN7.out.fin HX0.out HU.out (Nat.le_refl _) (by omega) HU8.out (by omega) (by omega), HN10.out.fin HX0.out HU.out (Nat.le_refl _) (by omega) HU8.out (by omega) (by omega)⟩
  · go_wp2_with (first | (refine wpl_load68 rfl _ rfl w.heap.size rfl _ _ _ _ HB2.out ?_; have TN : True := trivial) | (clear TN; go_must (refine wpl_store68 rfl _ _ rfl (w.heap.size + 1) (.int .u64 (num : Int)) (.int .i64 blk) (.slice A7 sl.length c7) (.slice A10 su.length c10) _ _ _ _ rfl rfl (by simp [row68, Value.oneCell']) HB3.out ?_; intro w8 h8 hu8; have H8 := Lib.hid h8; have HU8 := Lib.hid hu8; clear h8 hu8)))
    all_goals exact ret68 rfl (w.heap.size + 1) _ _ _ _ rfl H8.out rfl ⟨_, _, rfl, HN7.out.fin HX0.out HU.out (Nat.le_refl _) (by omega) HU8.out (by omega) (by omega), HN10.out.fin HX0.out HU.out (Nat.le_refl _) (by omega) HU8.out (by omega) (by omega)⟩
set_option maxRecDepth 100000 in
set_option maxHeartbeats 2000000 in
theorem flip_in (num : Nat) (blk : Int) (k : Nat) (sl : List UInt8) (su : List (List UInt8)) (sv gv : Value) (w : World) (hS : Bs w sv sl) (hG : Dgs w gv su) (hl : sl.length ≤ 4294967296) (hl2 : su.length ≤ 4294967296)
    (hk1 : (k : Int) < blk) (hk2 : k / 8 < sl.length) :
    Calls Try.prog 69 #[.agg #[.int .u64 (num : Int), .int .i64 blk, sv, gv],   .int .i64 (k : Int)] w fun e w' => ∃ v7 v10, e = .returned (.agg #[.int .u64 (num : Int), .int .i64 blk, v7, v10]) ∧ NewB w v7 (flipN sl k) w' ∧ NewD w v10 su w' := by
  obtain ⟨A, cap, rfl, _, _, _, _⟩ := hS.is
  obtain ⟨A2, cap2, rfl, _, _, _, _⟩ := hG.rd.is
  have hs0 : (w.alloc (.cells #[.int .u64 (num : Int), .int .i64 blk, .slice A sl.length cap, .slice A2 su.length cap2] 68)).heap.size = w.heap.size + 1 := by simp
  have HXS := Lib.hid ((Ext.refl w).alloc (.cells #[.int .u64 (num : Int), .int .i64 blk, .slice A sl.length cap, .slice A2 su.length cap2] 68))
  have HS0 := Lib.hid hS
  have HG0 := Lib.hid hG
  clear hS hG hs0
  go_enter Try.func69, Try.ntmps69
  go_wp2
  obtain ⟨W0, hW0⟩ : ∃ W0, (w.alloc (.cells #[.int .u64 (num : Int), .int .i64 blk, .slice A sl.length cap, .slice A2 su.length cap2] 68)).alloc (.cells #[.int .u64 0, .int .i64 0, .slice none 0 0, .slice none 0 0] 68) = W0 := ⟨_, rfl⟩
  have hx0 : Ext w W0 := by rw [← hW0]; exact ((Ext.refl w).alloc _).alloc _
  have hs0 : W0.heap.size = w.heap.size + 2 := by rw [← hW0]; simp
  have hb0 : W0.heap[w.heap.size]? = some (.cells #[.int .u64 (num : Int), .int .i64 blk, .slice A sl.length cap, .slice A2 su.length cap2] 68 (0, 0)) := by
    rw [← hW0]
    exact (((Ext.refl (w.alloc (.cells #[.int .u64 (num : Int), .int .i64 blk, .slice A sl.length cap, .slice A2 su.length cap2] 68))).alloc _).block (by simp)).trans (heap_alloc_last w _)
  have hb1 : W0.heap[w.heap.size + 1]? = some (.cells #[.int .u64 0, .int .i64 0, .slice none 0 0, .slice none 0 0] 68 (0, 0)) := by
    rw [← hW0]
    have h := heap_alloc_last (w.alloc (.cells #[.int .u64 (num : Int), .int .i64 blk, .slice A sl.length cap, .slice A2 su.length cap2] 68)) (.cells #[.int .u64 0, .int .i64 0, .slice none 0 0, .slice none 0 0] 68)
    rw [World.size_alloc] at h
    exact h
  rw [hW0]
  clear hW0
  have HS : Hid (Bs W0 (.slice A sl.length cap) sl) := Lib.hid (Rd.ext HS0.out hx0)
  have HG : Hid (Dgs W0 (.slice A2 su.length cap2) su) := Lib.hid (HG0.out.ext hx0)
  have HB0 := Lib.hid hb0
  have HB1 := Lib.hid hb1
  have HX0 := Lib.hid hx0
  have c2 : W0.cell? ⟨w.heap.size, 2, none⟩ = some (.slice A sl.length cap) := by rw [cell_of_row _ _ _ _ _ _ hb0]; rfl
  have c3 : W0.cell? ⟨w.heap.size, 3, none⟩ = some (.slice A2 su.length cap2) := by rw [cell_of_row _ _ _ _ _ _ hb0]; rfl
  clear hb0 hb1 hx0
  refine wp_region_mt 7 (by kernel_rfl) (by kernel_rfl) ?_
  try simp only [Act.put, List.setIfInBounds_toArray, List.set_cons_succ, List.set_cons_zero]
  simp only [List.take_succ_cons, List.take_zero]
  repeat (refine gq rfl rfl rfl rfl (fun K hK => ?_); go_big_quiet_op; refine hK _ ?_; clear hK K)
  refine gcp rfl rfl rfl rfl 107 #[.slice A sl.length cap] (fun _ => by go_simp) 7 rfl (NewBR W0 sl) NewBR.ext (fun y => (clone_any _ sl _ (Rd.ext HS.out (ext_ext W0 y)) hl).mono (fun e w' ⟨v, he, hn⟩ => ⟨v, he, hn.from (ext_ext W0 y), hn.ext⟩)) ?_
  simp only [Act.put, List.setIfInBounds_toArray, List.set_cons_succ, List.set_cons_zero]
  repeat (refine gq rfl rfl rfl rfl (fun K hK => ?_); go_big_quiet_op; refine hK _ ?_; clear hK K)
  refine gcp rfl rfl rfl rfl 108 #[.slice A2 su.length cap2] (fun _ => by go_simp) 10 rfl (NewDR W0 su) NewDR.ext (fun y => (cloned_any _ su _ (HG.out.ext (ext_ext W0 y)) hl2).mono (fun e w' ⟨v, he, hn⟩ => ⟨v, he, hn.from (ext_ext W0 y), hn.ext⟩)) ?_
  simp only [Act.put, List.setIfInBounds_toArray, List.set_cons_succ, List.set_cons_zero]
  repeat (refine gq rfl rfl rfl rfl (fun K hK => ?_); go_big_quiet_op; refine hK _ ?_; clear hK K)
  refine gm_end_at rfl [(10, NewDR W0 su), (7, NewBR W0 sl)] rfl (fun xs y hk => ?_)
  have h7 : NewB W0 (xs 7) sl (W0.ext y) := hk 7 (by simp) _ rfl
  have h10 : NewD W0 (xs 10) su (W0.ext y) := hk 10 (by simp) _ rfl
  clear hk
  simp only [fillM, Act.put, List.setIfInBounds_toArray, List.set_cons_succ, List.set_cons_zero]
  simp only [List.drop_succ_cons, List.drop_zero]
  have hxy : Ext W0 (W0.ext y) := ext_ext W0 y
  generalize xs 7 = v7 at *
  generalize xs 10 = v10 at *
  generalize W0.ext y = W1 at *
  obtain ⟨A7, c7, e7, _, _, _, _⟩ := h7.bs.is
  obtain ⟨A10, c10, e10, _, _, _, _⟩ := h10.dgs.rd.is
  rw [e7, e10]
  rw [e7] at h7
  rw [e10] at h10
  have HN7 := Lib.hid h7
  have HN10 := Lib.hid h10
  have hbx : W1.heap[w.heap.size]? = some (.cells #[.int .u64 (num : Int), .int .i64 blk, .slice A sl.length cap, .slice A2 su.length cap2] 68 (0, 0)) := (hxy.block (by omega)).trans HB0.out
  have hby : W1.heap[w.heap.size + 1]? = some (.cells #[.int .u64 0, .int .i64 0, .slice none 0 0, .slice none 0 0] 68 (0, 0)) := (hxy.block (by omega)).trans HB1.out
  have hc2 : W1.cell? ⟨w.heap.size, 2, none⟩ = some (.slice A sl.length cap) := by rw [cell_of_row _ _ _ _ _ _ hbx]; rfl
  have hc3 : W1.cell? ⟨w.heap.size, 3, none⟩ = some (.slice A2 su.length cap2) := by rw [cell_of_row _ _ _ _ _ _ hbx]; rfl
  have hf2 : W1.frozen? ⟨w.heap.size, 2, none⟩ = false := frozen_of_row _ _ _ _ _ hbx
  have hf3 : W1.frozen? ⟨w.heap.size, 3, none⟩ = false := frozen_of_row _ _ _ _ _ hbx
  obtain ⟨W2, hW2⟩ : ∃ W2, (W1.setCell ⟨w.heap.size, 2, none⟩ (.slice A7 sl.length c7)).setCell ⟨w.heap.size, 3, none⟩ (.slice A10 su.length c10) = W2 := ⟨_, rfl⟩
  have hb2 : W2.heap[w.heap.size]? = some (.cells #[.int .u64 (num : Int), .int .i64 blk, .slice A7 sl.length c7, .slice A10 su.length c10] 68 (0, 0)) := by
    rw [← hW2]
    have h1 := heap_setCell_same _ _ 2 _ _ (.slice A7 sl.length c7) hbx
    have h2 := heap_setCell_same _ _ 3 _ _ (.slice A10 su.length c10) h1
    exact h2
  have hb3 : W2.heap[w.heap.size + 1]? = some (.cells #[.int .u64 0, .int .i64 0, .slice none 0 0, .slice none 0 0] 68 (0, 0)) := by
    rw [← hW2]
    exact other_cell (other_cell hby (by omega)) (by omega)
  have hu : Upd W1 W2 w.heap.size := by rw [← hW2]; exact ((Upd.of_ext (Ext.refl W1) w.heap.size).setCell (p := ⟨w.heap.size, 2, none⟩) (.inl rfl) _).setCell (p := ⟨w.heap.size, 3, none⟩) (.inl rfl) _
  have HW2 := Lib.hid hW2
  have HB2 := Lib.hid hb2
  have HB3 := Lib.hid hb3
  have HU := Lib.hid hu
  have HXY := Lib.hid hxy
  clear hW2 hb2 hb3 hu hbx hby hxy e7 e10 h7 h10
  refine wpl_skip rfl 23 (.tmp 11) (.tmp 7) rfl (W1.setCell ⟨w.heap.size, 2, none⟩ (.slice A7 sl.length c7)) (by go_simp) ?_
  simp only [Act.put, List.setIfInBounds_toArray, List.set_cons_succ, List.set_cons_zero]
  refine wpl_exec rfl (.pointer (some ⟨w.heap.size, 3, none⟩)) (by go_simp) ?_
  simp only [Act.put, List.setIfInBounds_toArray, List.set_cons_succ, List.set_cons_zero]
  refine wpl_skip rfl 66 (.tmp 12) (.tmp 10) rfl ((W1.setCell ⟨w.heap.size, 2, none⟩ (.slice A7 sl.length c7)).setCell ⟨w.heap.size, 3, none⟩ (.slice A10 su.length c10)) (by go_simp) ?_
  simp only [Act.put, List.setIfInBounds_toArray, List.set_cons_succ, List.set_cons_zero]
  rw [HW2.out]
  have k1 : W2.cell? ⟨w.heap.size, 1, none⟩ = some (.int .i64 blk) := by rw [cell_of_row _ _ _ _ _ _ HB2.out]; rfl
  have k2 : W2.cell? ⟨w.heap.size, 2, none⟩ = some (.slice A7 sl.length c7) := by rw [cell_of_row _ _ _ _ _ _ HB2.out]; rfl
  clear hc2 hc3 hf2 hf3 c2 c3
  have hlw : w.heap.size < W2.heap.size := (Array.getElem?_eq_some_iff.1 HB2.out).1
  have hown7 := HN7.out.own.keep HU.out (fun e => by have := HN7.out.fr _ e; omega)
  obtain ⟨g, cap7, ev, hcell7, hfr7, hlt7, hob7, _, _⟩ := OwnB.set hown7 (k / 8) hk2
  injection ev with ev1 ev2 ev3
  subst ev1
  subst ev3
  have hgl := HN7.out.fr g hob7
  obtain ⟨j, hj⟩ : ∃ j, k / 8 = j := ⟨_, rfl⟩
  obtain ⟨r, hr⟩ : ∃ r, k % 8 = r := ⟨_, rfl⟩
  have hr8 : r < 8 := by omega
  have hkj : (k : Int) / 8 = (j : Int) := by omega
  have hkr : (k : Int) % 8 = (r : Int) := by omega
  have hfl : flipN sl k = sl.set j (UInt8.ofNat ((sl.getD j 0).toNat ^^^ 2 ^ r)) := by unfold flipN; rw [hj, hr]
  rw [hj] at hk2 hcell7 hfr7
  obtain ⟨x, hx⟩ : ∃ x, sl.getD j 0 = x := ⟨_, rfl⟩
  rw [hx] at hfl hcell7
  have HXX := Lib.hid hx
  have HO7 := Lib.hid hown7
  have HFL := Lib.hid hfl
  have HOB := Lib.hid hob7
  have hjl : j < sl.length := hk2
  clear hfl hob7 hj hr hown7 hx
  go_wp2
  refine wp_region_mt 11 (by kernel_rfl) (by kernel_rfl) ?_
  try simp only [Act.put, List.setIfInBounds_toArray, List.set_cons_succ, List.set_cons_zero]
  simp only [List.take_succ_cons, List.take_zero]
  repeat (refine gq rfl rfl rfl rfl (fun K hK => ?_); go_big_quiet_op; refine hK _ ?_; clear hK K)
  refine gm_end_at rfl [] rfl (fun xs' y2 hk => ?_)
  clear hk
  simp only [fillM, Act.put, List.setIfInBounds_toArray, List.set_cons_succ, List.set_cons_zero]
  simp only [List.drop_succ_cons, List.drop_zero]
  rw [xor_bit x r hr8]
  obtain ⟨y, hy⟩ : ∃ y, UInt8.ofNat (x.toNat ^^^ 2 ^ r) = y := ⟨_, rfl⟩
  rw [hy]
  have hx3 : Ext W2 (W2.ext y2) := ext_ext W2 y2
  generalize W2.ext y2 = W3 at *
  obtain ⟨g', cap8, ev, hcell8, hfr8, hlt8, hob8, ⟨cur8, hcur8⟩, hset8⟩ := OwnB.set (HO7.out.ext hx3) j hjl
  injection ev with ev1 ev2 ev3
  injection ev1 with ev1
  injection ev1 with ev1
  subst ev1
  rw [HXX.out] at hcell8
  have HFL2 : Hid (flipN sl k = sl.set j y) := Lib.hid (by rw [HFL.out, hy])
  obtain ⟨W4, hW4⟩ : ∃ W4, W3.setCell ⟨g, j, none⟩ (B8 y) = W4 := ⟨_, rfl⟩
  have ho4 : OwnB W4 (.slice (some ⟨g, 0, none⟩) sl.length c7) (flipN sl k) := by rw [← hW4, HFL2.out]; exact hset8 y
  have hu4 : Upd W3 W4 g := by rw [← hW4]; exact (Upd.of_ext (Ext.refl W3) g).setCell (p := ⟨g, j, none⟩) (.inl rfl) _
  have hd4 : Own W4 27 32 (.slice A10 su.length c10) su.length (dgc su) := ((HN10.out.own.keep HU.out (fun e => by have := HN10.out.fr _ e; omega)).ext hx3).keep hu4 (((HN10.out.own.keep HU.out (fun e => by have := HN10.out.fr _ e; omega)).ext hx3).not_block hcur8 (by decide))
  have hb4 := (hu4.old (Nat.lt_of_lt_of_le hlw hx3.size) (by omega)).trans ((hx3.block hlw).trans HB2.out)
  have hlw1 : w.heap.size + 1 < W2.heap.size := (Array.getElem?_eq_some_iff.1 HB3.out).1
  have hb5 := (hu4.old (Nat.lt_of_lt_of_le hlw1 hx3.size) (by omega)).trans ((hx3.block hlw1).trans HB3.out)
  have hx4 : Ext w W4 := ((((HX0.out.trans HXY.out).upd_new HU.out (Nat.le_refl _)).trans hx3).upd_new hu4 (by omega))
  have HO4 := Lib.hid ho4
  have HD4 := Lib.hid hd4
  have HB4 := Lib.hid hb4
  have HB5 := Lib.hid hb5
  have HX4 := Lib.hid hx4
  refine wpl_skip rfl 5 (.tmp 39) (.tmp 38) rfl (W3.setCell ⟨g, j, none⟩ (B8 y)) (by go_simp) ?_
  simp only [Act.put, List.setIfInBounds_toArray, List.set_cons_succ, List.set_cons_zero]
  rw [hW4]
  clear hcell8 hfr8 hset8 hcur8 hW4 ho4 hu4 hd4 hb4 hb5 hx4 hx3 k1 k2 hcell7 hfr7
  go_wp2_with (first | (refine wpl_load68 rfl _ rfl w.heap.size rfl _ _ _ _ HB4.out ?_) | (refine wpl_store68 rfl _ _ rfl (w.heap.size + 1) (.int .u64 (num : Int)) (.int .i64 blk) (.slice (some ⟨g, 0, none⟩) sl.length c7) (.slice A10 su.length c10) _ _ _ _ rfl rfl (by simp [row68, Value.oneCell']) HB5.out ?_; intro w8 h8 hu8; have H8 := Lib.hid h8; have HU8 := Lib.hid hu8; clear h8 hu8))
  refine ret68 rfl (w.heap.size + 1) _ _ _ _ rfl H8.out rfl ⟨_, _, rfl, ⟨HO4.out.keep HU8.out (fun e => ?_), HX4.out.upd_new HU8.out (by omega), fun k' hk' => ?_⟩, ⟨HD4.out.keep HU8.out (fun e => ?_), HX4.out.upd_new HU8.out (by omega), (fun k' hk' => ?_), HN10.out.all⟩⟩
  · injection e with e
    have e : g = w.heap.size + 1 := e
    omega
  · injection hk' with e
    have e : g = k' := e
    omega
  · have := HN10.out.fr _ e; omega
  · have := HN10.out.fr _ hk'; omega
end Go.Proofs.Ytapojpjmeadabaa
end

section
/- seal.Encode's closure: add. -/
namespace Go.Proofs.Ytapojpjmeadabaa
open Go.RowKit
set_option linter.unusedVariables false
set_option linter.unusedSimpArgs false
attribute [local go_sem] lt_ext cell?_ext frozen?_ext shape?_ext

/-- The variable 'out': a box of our own, that holds bytes of our own. -/
structure OutW (w0 : World) (g : Nat) (l : List UInt8) (w : World) : Prop where
  ex : ∃ v, w.heap[g]? = some (.cells #[v] 23 (0, 0)) ∧ NewB w0 v l w
  ge : w0.heap.size ≤ g
theorem OutW.ext {w0 w : World} {g : Nat} {l : List UInt8} (h : OutW w0 g l w) : Ext w0 w := by
  obtain ⟨v, _, hn⟩ := h.ex
  exact hn.ext
theorem OutW.grow {w0 w w' : World} {g : Nat} {l : List UInt8} (h : OutW w0 g l w) (hx : Ext w w') : OutW w0 g l w' := by
  obtain ⟨v, hb, hn⟩ := h.ex
  exact ⟨⟨v, (hx.block (Array.getElem?_eq_some_iff.1 hb).1).trans hb, hn.grow hx⟩, h.ge⟩
set_option maxRecDepth 100000 in
set_option maxHeartbeats 1000000 in
theorem encadd_any (w0 : World) (g : Nat) (l b : List UInt8) (bv : Value) (w : World) (hO : OutW w0 g l w) (hB : Bs w bv b) (hl : l.length + b.length ≤ 4294967296) :
    Calls Try.prog 103 #[bv, .pointer (some ⟨g, 0, none⟩)] w fun e w' => (∃ v, e = .returned v) ∧ OutW w0 g (l ++ b) w' := by
  obtain ⟨v, hb, hn⟩ := hO.ex
  have hge := hO.ge
  have hc : w.cell? ⟨g, 0, none⟩ = some v := by rw [cell_of_row _ _ _ _ _ _ hb]; rfl
  have HN := Lib.hid hn
  have HB := Lib.hid hB
  have HG := Lib.hid hb
  clear hO hB hn hb
  go_enter Try.func103, Try.ntmps103
  go_wp2_with (at_builtin; go_must (refine wpList_append_bs rfl _ _ rfl _ rfl HN.out.own _ rfl HB.out (by omega) ?_; intro v1 w1 ho1 hg1 hf1; have hb1 : w1.heap[g]? = some (.cells #[v] 23 (0, 0)) := (hg1.block g (Array.getElem?_eq_some_iff.1 HG.out).1 (fun e => HN.out.own.not_block HG.out (by decide) e.symm)).trans HG.out; have hc1 : w1.cell? ⟨g, 0, none⟩ = some v := (by rw [cell_of_row _ _ _ _ _ _ hb1]; rfl); have hfr1 : w1.frozen? ⟨g, 0, none⟩ = false := frozen_of_row _ _ _ _ _ hb1; have HN1 := Lib.hid (HN.out.app ho1 hg1 hf1); have HB1 := Lib.hid hb1; obtain ⟨A1, c1, e1, _, _, _, _⟩ := HN1.out.bs.is; rw [e1]; have HE1 := Lib.hid e1; clear ho1 hg1 hf1 hb1 e1))
  go_end0
  have hv : v1 = .slice A1 (l.length + b.length) c1 := by rw [HE1.out, List.length_append]
  refine ⟨⟨_, rfl⟩, ⟨⟨v1, ?_, ?_⟩, hge⟩⟩
  · rw [← hv]
    have h := heap_setCell_same _ _ 0 _ _ v1 HB1.out
    exact h
  · rw [← hv]
    have hu : Upd w1 (w1.setCell ⟨g, 0, none⟩ v1) g := (Upd.of_ext (Ext.refl w1) g).setCell (p := ⟨g, 0, none⟩) (.inl rfl) _
    exact ⟨HN1.out.own.keep hu (HN1.out.own.not_block HB1.out (by decide)), HN1.out.ext.upd_new hu hge, HN1.out.fr⟩
end Go.Proofs.Ytapojpjmeadabaa
end

section
/- seal.Encode. -/
namespace Go.Proofs.Ytapojpjmeadabaa
open Go.RowKit
set_option linter.unusedVariables false
set_option linter.unusedSimpArgs false
attribute [local go_sem] lt_ext cell?_ext frozen?_ext shape?_ext

def magicL : List UInt8 := [83, 69, 65, 76]
def bodyS (num N : Nat) (sl : List UInt8) (su : List (List UInt8)) : List UInt8 := magicL ++ be num 8 ++ be N 4 ++ sl ++ su.flatten
def encS (key : List UInt8) (num N : Nat) (sl : List UInt8) (su : List (List UInt8)) : List UInt8 := bodyS num N sl su ++ Sha.tag key (bodyS num N sl su)
theorem OutW.nil (w0 w : World) (h : Ext w0 w) : OutW w0 w.heap.size [] (w.alloc (.cells #[.slice none 0 0] 23)) :=
  ⟨⟨_, heap_alloc_last w _, NewB.nil (h.alloc _)⟩, h.size⟩
set_option maxRecDepth 100000 in
set_option maxHeartbeats 1000000 in
theorem encode_not (kv : Value) (x : Se) (w : World) (hx : SeR w x) (hr : rightB x.blk x.sl x.su = false) :
    Calls Try.prog 64 #[kv, x.v] w fun e w' => e = .returned (.tuple #[.slice none 0 0, .int .i64 2]) ∧ Ext w w' := by
  have hb := sright_any x
  obtain ⟨num, blk, sl, su, sv, gv⟩ := x
  obtain ⟨A, cap, e1, _, _, _, _⟩ := hx.sl.is
  obtain ⟨A2, cap2, e2, _, _, _, _⟩ := hx.su.rd.is
  simp only at e1 e2 hr
  subst e1; subst e2
  have HX : Hid (Ext w (w.alloc (.cells #[.int .u64 (num : Int), .int .i64 blk, .slice A sl.length cap, .slice A2 su.length cap2] 68))) := Lib.hid ((Ext.refl w).alloc _)
  have HC := Lib.hid (hb _ (hx.ext HX.out))
  have HR := Lib.hid hr
  clear hb hx hr
  show Calls Try.prog 64 #[kv, .agg #[.int .u64 (num : Int), .int .i64 blk, .slice A sl.length cap, .slice A2 su.length cap2]] w _
  go_enter Try.func64, Try.ntmps64
  go_wp2_with (go_at_call 67; go_must (refine HC.out.mono ?_; rintro e w1 ⟨rfl, hx1⟩; simp only [HR.out]; have HX1 := Lib.hid (HX.out.trans hx1); clear hx1))
  refine bodyPost_ret (results_tmp2 rfl _ _ _) rfl ?_
  exact ⟨rfl, HX1.out⟩
set_option maxRecDepth 100000 in
set_option maxHeartbeats 2000000 in
theorem encode_in (num N : Nat) (sl : List UInt8) (su : List (List UInt8)) (kv sv gv : Value) (key : List UInt8) (w : World) (hK : Bs w kv key) (hk : key.length ≤ 2147483648) (hx : SeR w ⟨num, N, sl, su, sv, gv⟩) (hN : N ≤ 4096) (hsl : sl.length ≤ 600) (hsu : su.length ≤ 300) (hr : rightB N sl su = true) :
    Calls Try.prog 64 #[kv, .agg #[.int .u64 (num : Int), .int .i64 (N : Int), sv, gv]] w fun e w' => ∃ v, e = .returned (.tuple #[v, .int .i64 0]) ∧ NewB w v (encS key num N sl su) w' := by
  have hb := sright_any ⟨num, N, sl, su, sv, gv⟩
  have hnum := hx.num
  obtain ⟨A, cap, e1, _, _, _, _⟩ := hx.sl.is
  obtain ⟨A2, cap2, e2, _, _, _, _⟩ := hx.su.rd.is
  simp only at e1 e2 hr hnum
  subst e1; subst e2
  obtain ⟨W1, hW1⟩ : ∃ W1, w.alloc (.cells #[.int .u64 (num : Int), .int .i64 (N : Int), .slice A sl.length cap, .slice A2 su.length cap2] 68) = W1 := ⟨_, rfl⟩
  have HX : Hid (Ext w W1) := Lib.hid (by rw [← hW1]; exact (Ext.refl w).alloc _)
  have hbx : W1.heap[w.heap.size]? = some (.cells #[.int .u64 (num : Int), .int .i64 (N : Int), .slice A sl.length cap, .slice A2 su.length cap2] 68 (0, 0)) := by rw [← hW1]; exact heap_alloc_last w _
  have BX : Hid (∀ w', Ext W1 w' → w'.cell? ⟨w.heap.size, 0, none⟩ = some (.int .u64 (num : Int)) ∧ w'.cell? ⟨w.heap.size, 1, none⟩ = some (.int .i64 (N : Int)) ∧ w'.cell? ⟨w.heap.size, 2, none⟩ = some (.slice A sl.length cap) ∧ w'.cell? ⟨w.heap.size, 3, none⟩ = some (.slice A2 su.length cap2) ∧ w.heap.size < w'.heap.size) := Lib.hid (fun w' hx' => by
    have h := (hx'.block (Array.getElem?_eq_some_iff.1 hbx).1).trans hbx
    exact ⟨by rw [cell_of_row _ _ _ _ _ _ h]; rfl, by rw [cell_of_row _ _ _ _ _ _ h]; rfl, by rw [cell_of_row _ _ _ _ _ _ h]; rfl, by rw [cell_of_row _ _ _ _ _ _ h]; rfl, (Array.getElem?_eq_some_iff.1 h).1⟩)
  have HC := Lib.hid (hb _ (hx.ext HX.out))
  have HR := Lib.hid hr
  have HS : Hid (Bs W1 (.slice A sl.length cap) sl) := Lib.hid (Rd.ext hx.sl HX.out)
  have HG : Hid (Dgs W1 (.slice A2 su.length cap2) su) := Lib.hid (hx.su.ext HX.out)
  have HK := Lib.hid (Rd.ext hK HX.out)
  have HW1 := Lib.hid hW1
  clear hb hx hr hbx hW1 hK
  have TA : True := trivial
  go_enter Try.func64, Try.ntmps64
  have hW1 := HW1.out
  rw [← hW1] at HC
  clear hW1
  go_wp2_with (first | (go_at_call 67; clear TA; go_must (refine HC.out.mono ?_; rintro e w1 ⟨rfl, hx1⟩; simp only [HR.out]; have hx1 : Ext W1 w1 := (by rw [← HW1.out]; exact hx1); have HX1 : Hid (Ext W1 w1) := Lib.hid hx1; have HO0 : Hid (OutW W1 w1.heap.size [] (w1.alloc (.cells #[.slice none 0 0] 23))) := Lib.hid (OutW.nil W1 w1 hx1); clear hx1; have TB : True := trivial)) | (clear TB; rw [show w1.heap.size + 1 = (w1.alloc (.cells #[.slice none 0 0] 23)).heap.size from (World.size_alloc _ _).symm]; refine wpl_conv23 rfl (.tmp 16) rfl magicL 4 rfl _ rfl (by decide) rfl ?_; intro wa va hba hxa; have HBA := Lib.hid hba; have HOa := Lib.hid (HO0.out.grow hxa); clear hba hxa; have TC : True := trivial) | (go_at_call 103; clear TC; go_must (refine (encadd_any W1 _ [] magicL _ _ HOa.out HBA.out (by decide)).mono ?_; rintro e w2 ⟨⟨vv2, rfl⟩, hO2⟩; have HO2 := Lib.hid hO2; clear hO2; obtain ⟨c0, c1, c2, c3, hlb⟩ := BX.out _ HO2.out.ext; have TD : True := trivial)) | (go_at_call 95; clear TD; go_must (refine (cput_any num hnum 8 (by omega) (by omega) _).mono ?_; rintro e w3 ⟨v3, rfl, hn3⟩; have HB3 := Lib.hid hn3.bs; have HO3 := Lib.hid (HO2.out.grow hn3.ext); clear hn3; have TE : True := trivial)) | (go_at_call 103; clear TE; go_must (refine (encadd_any W1 _ _ _ _ _ HO3.out HB3.out (by simp [be_length, magicL])).mono ?_; rintro e w4 ⟨⟨vv4, rfl⟩, hO4⟩; have HO4 := Lib.hid hO4; clear hO4 c0 c1 c2 c3 hlb; obtain ⟨c0, c1, c2, c3, hlb⟩ := BX.out _ HO4.out.ext; have TF : True := trivial)) | (go_at_call 95; clear TF; go_must (refine (cput_any N (by omega) 4 (by omega) (by omega) _).mono ?_; rintro e w5 ⟨v5, rfl, hn5⟩; have HB5 := Lib.hid hn5.bs; have HO5 := Lib.hid (HO4.out.grow hn5.ext); clear hn5; have TG : True := trivial)) | (go_at_call 103; clear TG; go_must (refine (encadd_any W1 _ _ _ _ _ HO5.out HB5.out (by simp [be_length, magicL])).mono ?_; rintro e w6 ⟨⟨vv6, rfl⟩, hO6⟩; have HO6 := Lib.hid hO6; clear hO6 c0 c1 c2 c3 hlb; obtain ⟨c0, c1, c2, c3, hlb⟩ := BX.out _ HO6.out.ext; have TH : True := trivial)) | (go_at_call 103; clear TH; go_must (refine (encadd_any W1 _ _ sl _ _ HO6.out (Rd.ext HS.out HO6.out.ext) (by simp [be_length, magicL]; omega)).mono ?_; rintro e w7 ⟨⟨vv7, rfl⟩, hO7⟩; have HO7 := Lib.hid hO7; clear hO7 c0 c1 c2 c3 hlb; obtain ⟨c0, c1, c2, c3, hlb⟩ := BX.out _ HO7.out.ext)))
  obtain ⟨pre, hpre⟩ : ∃ pre, [] ++ magicL ++ be num 8 ++ be N 4 ++ sl = pre := ⟨_, rfl⟩
  have hpl : pre.length ≤ 700 := by rw [← hpre]; simp [be_length, magicL]; omega
  have hbody : pre ++ su.flatten = bodyS num N sl su := by rw [← hpre]; simp [bodyS]
  rw [hpre] at HO7
  have HBO := Lib.hid hbody
  have hfl := flat32 su HG.out.all
  have HFL := Lib.hid hfl
  obtain ⟨gg, hgg⟩ : ∃ gg, w1.heap.size = gg := ⟨_, rfl⟩
  rw [hgg] at HO7 ⊢
  clear hpre hbody hfl hgg c0 c1 c2 c3 hlb HO0 HOa HBA HO2 HO3 HB3 HO4 HO5 HB5 HO6
  go_loopw [37, 9] (fun i q wr => ∃ k : Nat, k ≤ su.length ∧ i = .int .i64 k ∧ OutW W1 gg (pre ++ (su.take k).flatten) wr) (fun i _ _ => su.length - (intOf i).toNat)
  case atStart => exact ⟨0, by omega, rfl, by simpa using HO7.out⟩
  case round =>
    obtain ⟨k, hk1, rfl, ho⟩ := hrel
    have HO := Lib.hid ho
    have HXR : Hid (Ext W1 wr) := Lib.hid ho.ext
    have hft := flat_take_le su k
    rw [HFL.out] at hft
    by_cases hlt : k < su.length
    · obtain ⟨b, o, capq, hA, hbl, hdl, hca⟩ := (HG.out.ext ho.ext).at_ k hlt
      injection hA with hA1 hA2 hA3
      subst hA1
      subst hA3
      have HFS := Lib.hid (flat_take_succ su k hlt)
      obtain ⟨d, hd⟩ : ∃ d, su.getD k [] = d := ⟨_, rfl⟩
      rw [hd] at hdl hca HFS
      have HDL := Lib.hid hdl
      have HCD := Lib.hid hca
      obtain ⟨ft, hftk⟩ : ∃ ft, (su.take k).flatten = ft := ⟨_, rfl⟩
      rw [hftk] at HO HFS hft
      clear ho hd hftk hdl hca
      go_wp2_with (first | (refine wpl_exec rfl (Dig d) (exec_load27_at (.tmp 39) rfl b (o + k * 32) rfl d HDL.out _ HCD.out) ?_) | (refine wpl_alloc_agg rfl 27 rfl _ zero27.1 ?_) | (refine wpl_store27 rfl _ _ rfl wr.heap.size d (Sha.zeros 32) rfl rfl HDL.out (by simp [Sha.zeros]) (heap_alloc_last wr _) ?_; intro w8 h8 hu8; have H8 : Hid (Blk w8 wr.heap.size 27 d) := Lib.hid h8; have hx8 : Ext wr w8 := ((Ext.refl wr).alloc _).upd_new hu8 (Nat.le_refl _); have HO8 := Lib.hid (HO.out.grow hx8); clear h8 hu8 hx8) | (go_at_call 103; go_must (refine (encadd_any W1 gg (pre ++ ft) d _ _ HO8.out (Blk.whole H8.out 32 32 HDL.out.symm (Nat.le_refl _) (by decide)) (by rw [List.length_append, HDL.out]; omega)).mono ?_; rintro e w9 ⟨⟨vv9, rfl⟩, hO9⟩; have HO9 := Lib.hid hO9; clear hO9)))
      go_roundw
      case rel => exact ⟨k + 1, by omega, by go_num, by rw [HFS.out, ← List.append_assoc]; exact HO9.out⟩
      case measure => (simp [intOf] <;> omega)
    · obtain rfl : k = su.length := by omega
      rw [List.take_length, HBO.out] at ho
      obtain ⟨bd, hbd⟩ : ∃ bd, bodyS num N sl su = bd := ⟨_, rfl⟩
      have hbl : bd.length ≤ 1073741824 := by rw [← hbd, ← HBO.out, List.length_append, HFL.out]; omega
      have hen : encS key num N sl su = bd ++ Sha.tag key bd := by unfold encS; rw [hbd]
      rw [hbd] at ho
      have HEN := Lib.hid hen
      obtain ⟨T, hT⟩ : ∃ T, Sha.tag key bd = T := ⟨_, rfl⟩
      have HT := Lib.hid hT
      have HTl : Hid (T.length = 32) := Lib.hid (by rw [← hT]; exact Sha.tag_length _ _)
      obtain ⟨v, hvb, hvn⟩ := ho.ex
      obtain ⟨Av, cv, ev, _, _, _, _⟩ := hvn.bs.is
      have hcv : wr.cell? ⟨gg, 0, none⟩ = some v := by rw [cell_of_row _ _ _ _ _ _ hvb]; rfl
      rw [ev] at hcv
      have HVB : Hid (Bs wr (.slice Av bd.length cv) bd) := Lib.hid (by rw [← ev]; exact hvn.bs)
      have HOB := Lib.hid ho
      have hbl2 : bd.length + 32 ≤ 4294967296 := by omega
      clear ho hvb hvn ev hbd hen hT HO
      have TM : True := trivial
      go_wp2_with (first | (go_at_call 47; clear TM; go_must (refine (tag_one T bd _ _ key wr _ rfl HT (Rd.ext HK.out HXR.out) HVB.out hk hbl).mono ?_; rintro e w9 ⟨rfl, hx9⟩; have HO9 := Lib.hid (HOB.out.grow hx9); have TN : True := trivial; clear hx9)) | (refine wpl_alloc_agg rfl 27 rfl _ zero27.1 ?_) | (clear TN; refine wpl_store27 rfl _ _ rfl w9.heap.size T (Sha.zeros 32) rfl rfl HTl.out (by simp [Sha.zeros]) (heap_alloc_last w9 _) ?_; intro w10 h10 hu10; have H10 : Hid (Blk w10 w9.heap.size 27 T) := Lib.hid h10; have hx10 : Ext w9 w10 := ((Ext.refl w9).alloc _).upd_new hu10 (Nat.le_refl _); have HO10 := Lib.hid (HO9.out.grow hx10); clear h10 hu10 hx10; have TO : True := trivial) | (go_at_call 103; clear TO; go_must (refine (encadd_any W1 gg bd T _ _ HO10.out (Blk.whole H10.out 32 32 HTl.out.symm (Nat.le_refl _) (by decide)) (by rw [HTl.out]; exact hbl2)).mono ?_; rintro e w11 ⟨⟨vv11, rfl⟩, hO11⟩; obtain ⟨v11, hb11, hn11⟩ := hO11.ex; have c11 : w11.cell? ⟨gg, 0, none⟩ = some v11 := (by rw [cell_of_row _ _ _ _ _ _ hb11]; rfl); have HN11 := Lib.hid hn11; clear hO11 hb11 hn11)))
      refine bodyPost_ret (results_tmp2 rfl _ _ _) rfl ?_
      exact ⟨_, rfl, by rw [HEN.out, HT.out]; exact HN11.out.from HX.out⟩
end Go.Proofs.Ytapojpjmeadabaa
end

section
/- sacristanref08.Encode. -/
namespace Go.Proofs.Ytapojpjmeadabaa
open Go.RowKit
set_option linter.unusedVariables false
set_option linter.unusedSimpArgs false
attribute [local go_sem] lt_ext cell?_ext frozen?_ext shape?_ext

theorem wpl_conv23_m {ops : Array Oper} {rest : List Oper} {o : Oper} {a : Act} {w : World} {Q : Exit → Act → World → Prop} (hw : Region.wanted o (yielded ops a.tmps) = true) (x : Operand) (ho : o.op = .convert 23 23 x)
    (l : List UInt8) (n : Nat) (hn : n = l.length) (C : Array Value) (hC : C = (l.map B8).toArray) (hl : l.length ≤ 4294967296) (hx : a.eval x = .slice (some ⟨w.heap.size, 0, none⟩) n n)
    (h : ∀ w' v, NewM w v l w' → wpList Try.prog ops Q rest (a.put o.dst v) w') : wpList Try.prog ops Q (o :: rest) a (w.alloc (.cells C 5)) :=
  wpl_vw hw _ _ (exec_conv23 x ho w C n n hx) (h _ _ (by
    subst hn; subst hC
    refine ⟨⟨w.heap.size, l.length, (l.map B8).toArray, _, rfl, heap_alloc_last w _, Nat.le_refl _, Nat.le_trans hl (by unfold maxLen; decide), by simp, (by simp only; exact List.take_of_length_le (by simp)), .inr (by simp)⟩, (Ext.refl w).alloc _, fun g hg => by injection hg with e; subst e; exact Nat.le_refl _⟩))
set_option maxRecDepth 100000 in
set_option maxHeartbeats 1000000 in
theorem rencode_not (kv : Value) (x : Se) (w : World) (hx : SeR w x) (hl : x.sl.length ≤ 140737488355328) (hr : rightB x.blk x.sl x.su = false) :
    Calls Try.prog 74 #[kv, x.v] w fun e w' => e = .returned (.tuple #[.slice none 0 0, .int .i64 2]) ∧ Ext w w' := by
  have hb := fun w h => rright_any x w h hl
  obtain ⟨num, blk, sl, su, sv, gv⟩ := x
  obtain ⟨A, cap, e1, _, _, _, _⟩ := hx.sl.is
  obtain ⟨A2, cap2, e2, _, _, _, _⟩ := hx.su.rd.is
  simp only at e1 e2 hr
  subst e1; subst e2
  have HX : Hid (Ext w (w.alloc (.cells #[.int .u64 (num : Int), .int .i64 blk, .slice A sl.length cap, .slice A2 su.length cap2] 68))) := Lib.hid ((Ext.refl w).alloc _)
  have HC := Lib.hid (hb _ (hx.ext HX.out))
  have HR := Lib.hid hr
  clear hb hx hr
  show Calls Try.prog 74 #[kv, .agg #[.int .u64 (num : Int), .int .i64 blk, .slice A sl.length cap, .slice A2 su.length cap2]] w _
  go_enter Try.func74, Try.ntmps74
  go_wp2_with (go_at_call 62; go_must (refine HC.out.mono ?_; rintro e w1 ⟨rfl, hx1⟩; simp only [HR.out]; have HX1 := Lib.hid (HX.out.trans hx1); clear hx1))
  refine bodyPost_ret (results_tmp2 rfl _ _ _) rfl ?_
  exact ⟨rfl, HX1.out⟩
set_option maxRecDepth 100000 in
set_option maxHeartbeats 2000000 in
theorem rencode_in (num N : Nat) (sl : List UInt8) (su : List (List UInt8)) (kv sv gv : Value) (key : List UInt8) (w : World) (hK : Bs w kv key) (hk : key.length ≤ 2147483648) (hx : SeR w ⟨num, N, sl, su, sv, gv⟩) (hN : N ≤ 4096) (hsl : sl.length ≤ 600) (hsu : su.length ≤ 300) (hr : rightB N sl su = true) :
    Calls Try.prog 74 #[kv, .agg #[.int .u64 (num : Int), .int .i64 (N : Int), sv, gv]] w fun e w' => ∃ v, e = .returned (.tuple #[v, .int .i64 0]) ∧ Bs w' v (encS key num N sl su) ∧ Ext w w' := by
  have hb := fun w h => rright_any ⟨num, N, sl, su, sv, gv⟩ w h (show sl.length ≤ _ by omega)
  have hnum := hx.num
  obtain ⟨A, cap, e1, _, _, _, _⟩ := hx.sl.is
  obtain ⟨A2, cap2, e2, _, _, _, _⟩ := hx.su.rd.is
  simp only at e1 e2 hr hnum
  subst e1; subst e2
  obtain ⟨W1, hW1⟩ : ∃ W1, w.alloc (.cells #[.int .u64 (num : Int), .int .i64 (N : Int), .slice A sl.length cap, .slice A2 su.length cap2] 68) = W1 := ⟨_, rfl⟩
  have HX : Hid (Ext w W1) := Lib.hid (by rw [← hW1]; exact (Ext.refl w).alloc _)
  have hbx : W1.heap[w.heap.size]? = some (.cells #[.int .u64 (num : Int), .int .i64 (N : Int), .slice A sl.length cap, .slice A2 su.length cap2] 68 (0, 0)) := by rw [← hW1]; exact heap_alloc_last w _
  have BX : Hid (∀ w', Ext W1 w' → w'.cell? ⟨w.heap.size, 0, none⟩ = some (.int .u64 (num : Int)) ∧ w'.cell? ⟨w.heap.size, 1, none⟩ = some (.int .i64 (N : Int)) ∧ w'.cell? ⟨w.heap.size, 2, none⟩ = some (.slice A sl.length cap) ∧ w'.cell? ⟨w.heap.size, 3, none⟩ = some (.slice A2 su.length cap2) ∧ w.heap.size < w'.heap.size) := Lib.hid (fun w' hx' => by
    have h := (hx'.block (Array.getElem?_eq_some_iff.1 hbx).1).trans hbx
    exact ⟨by rw [cell_of_row _ _ _ _ _ _ h]; rfl, by rw [cell_of_row _ _ _ _ _ _ h]; rfl, by rw [cell_of_row _ _ _ _ _ _ h]; rfl, by rw [cell_of_row _ _ _ _ _ _ h]; rfl, (Array.getElem?_eq_some_iff.1 h).1⟩)
  have HC := Lib.hid (hb _ (hx.ext HX.out))
  have HR := Lib.hid hr
  have HS : Hid (Bs W1 (.slice A sl.length cap) sl) := Lib.hid (Rd.ext hx.sl HX.out)
  have HG : Hid (Dgs W1 (.slice A2 su.length cap2) su) := Lib.hid (hx.su.ext HX.out)
  have HK := Lib.hid (Rd.ext hK HX.out)
  have HW1 := Lib.hid hW1
  clear hb hx hr hbx hW1 hK
  have TA : True := trivial
  go_enter Try.func74, Try.ntmps74
  have hW1 := HW1.out
  rw [← hW1] at HC
  clear hW1
  go_wp2_with (first | (go_at_call 62; clear TA; go_must (refine HC.out.mono ?_; rintro e w1 ⟨rfl, hx1⟩; simp only [HR.out]; have hx1 : Ext W1 w1 := (by rw [← HW1.out]; exact hx1); have HX1 : Hid (Ext W1 w1) := Lib.hid hx1; clear hx1; have TB : True := trivial)) | (clear TB; refine wpl_conv23_m rfl (.tmp 11) rfl magicL 4 rfl _ rfl (by decide) rfl ?_; intro w2 v2 hn2; have HO2 : Hid (NewM W1 v2 magicL w2) := Lib.hid ⟨hn2.own, HX1.out.trans hn2.ext, fun g hg => Nat.le_trans HX1.out.size (hn2.fr g hg)⟩; clear hn2; obtain ⟨c0, c1, c2, c3, hlb⟩ := BX.out _ HO2.out.ext; have TD : True := trivial) | (go_at_call 79; clear TD; go_must (refine (put_any num hnum 8 (by omega) (by omega) _).mono ?_; rintro e w3 ⟨v3, rfl, hn3⟩; have HB3 := Lib.hid hn3.bs; have HO3 := Lib.hid (HO2.out.grow hn3.ext); clear hn3; have TE : True := trivial)) | (at_builtin; clear TE; go_must (refine wpList_append_m rfl _ _ rfl _ rfl HO3.out.own _ rfl HB3.out (by simp [be_length, magicL]) ?_; intro v4 w4 ho4 hg4 hf4; have HO4 := Lib.hid (HO3.out.app ho4 hg4 hf4); clear ho4 hg4 hf4 c0 c1 c2 c3 hlb; obtain ⟨c0, c1, c2, c3, hlb⟩ := BX.out _ HO4.out.ext; have TF : True := trivial)) | (go_at_call 79; clear TF; go_must (refine (put_any N (by omega) 4 (by omega) (by omega) _).mono ?_; rintro e w5 ⟨v5, rfl, hn5⟩; have HB5 := Lib.hid hn5.bs; have HO5 := Lib.hid (HO4.out.grow hn5.ext); clear hn5; have TG : True := trivial)) | (at_builtin; clear TG; go_must (refine wpList_append_m rfl _ _ rfl _ rfl HO5.out.own _ rfl HB5.out (by simp [be_length, magicL]) ?_; intro v6 w6 ho6 hg6 hf6; have HO6 := Lib.hid (HO5.out.app ho6 hg6 hf6); clear ho6 hg6 hf6 c0 c1 c2 c3 hlb; obtain ⟨c0, c1, c2, c3, hlb⟩ := BX.out _ HO6.out.ext; have TH : True := trivial)) | (at_builtin; clear TH; go_must (refine wpList_append_m rfl _ _ rfl _ rfl HO6.out.own _ rfl (Rd.ext HS.out HO6.out.ext) (by simp [be_length, magicL]; omega) ?_; intro v7 w7 ho7 hg7 hf7; have HO7 := Lib.hid (HO6.out.app ho7 hg7 hf7); clear ho7 hg7 hf7 c0 c1 c2 c3 hlb; obtain ⟨c0, c1, c2, c3, hlb⟩ := BX.out _ HO7.out.ext)))
  obtain ⟨pre, hpre⟩ : ∃ pre, magicL ++ be num 8 ++ be N 4 ++ sl = pre := ⟨_, rfl⟩
  have hpl : pre.length ≤ 700 := by rw [← hpre]; simp [be_length, magicL]; omega
  have hbody : pre ++ su.flatten = bodyS num N sl su := by rw [← hpre]; simp [bodyS]
  rw [hpre] at HO7
  have HBO := Lib.hid hbody
  have hfl := flat32 su HG.out.all
  have HFL := Lib.hid hfl
  clear hpre hbody hfl c0 c1 c2 c3 hlb HO2 HO3 HB3 HO4 HO5 HB5 HO6
  go_loopw [7, 6] (fun i v wr => ∃ k : Nat, k ≤ su.length ∧ i = .int .i64 k ∧ NewM W1 v (pre ++ (su.take k).flatten) wr) (fun i _ _ => su.length - (intOf i).toNat)
  case atStart => exact ⟨0, by omega, rfl, by simpa using HO7.out⟩
  case round =>
    obtain ⟨k, hk1, rfl, ho⟩ := hrel
    have HO := Lib.hid ho
    have HXR : Hid (Ext W1 wr) := Lib.hid ho.ext
    obtain ⟨c0, c1, c2, c3, hlb⟩ := BX.out _ ho.ext
    have hft := flat_take_le su k
    rw [HFL.out] at hft
    by_cases hlt : k < su.length
    · obtain ⟨b, o, capq, hA, hbl, hdl, hca⟩ := (HG.out.ext ho.ext).at_ k hlt
      injection hA with hA1 hA2 hA3
      subst hA1
      subst hA3
      have HFS := Lib.hid (flat_take_succ su k hlt)
      obtain ⟨d, hd⟩ : ∃ d, su.getD k [] = d := ⟨_, rfl⟩
      rw [hd] at hdl hca HFS
      have HDL := Lib.hid hdl
      have HCD := Lib.hid hca
      obtain ⟨ft, hftk⟩ : ∃ ft, (su.take k).flatten = ft := ⟨_, rfl⟩
      rw [hftk] at HO HFS hft
      clear ho hd hftk hdl hca
      go_wp2_with (first | (refine wpl_exec rfl (Dig d) (exec_load27_at (.tmp 39) rfl b (o + k * 32) rfl d HDL.out _ HCD.out) ?_) | (go_at_call 50; go_must (refine (slice_any d HDL.out _).mono ?_; rintro e w8 ⟨v8, rfl, hn8⟩; have HB8 := Lib.hid hn8.bs; have HO8 := Lib.hid (HO.out.grow hn8.ext); clear hn8)) | (at_builtin; go_must (refine wpList_append_m rfl _ _ rfl _ rfl HO8.out.own _ rfl HB8.out (by rw [List.length_append, HDL.out]; omega) ?_; intro v9 w9 ho9 hg9 hf9; have HO9 := Lib.hid (HO8.out.app ho9 hg9 hf9); clear ho9 hg9 hf9)))
      go_roundw
      case rel => exact ⟨k + 1, by omega, by go_num, by rw [HFS.out, ← List.append_assoc]; exact HO9.out⟩
      case measure => (simp [intOf] <;> omega)
    · obtain rfl : k = su.length := by omega
      rw [List.take_length, HBO.out] at ho
      obtain ⟨bd, hbd⟩ : ∃ bd, bodyS num N sl su = bd := ⟨_, rfl⟩
      have hbl : bd.length ≤ 1073741824 := by rw [← hbd, ← HBO.out, List.length_append, HFL.out]; omega
      have hen : encS key num N sl su = bd ++ Sha.tag key bd := by unfold encS; rw [hbd]
      rw [hbd] at ho
      have HEN := Lib.hid hen
      obtain ⟨T, hT⟩ : ∃ T, Sha.tag key bd = T := ⟨_, rfl⟩
      have HT := Lib.hid hT
      have HTl : Hid (T.length = 32) := Lib.hid (by rw [← hT]; exact Sha.tag_length _ _)
      have HOB := Lib.hid ho
      have hbl2 : bd.length + 32 ≤ 4294967296 := by omega
      clear ho hbd hen hT HO
      go_wp2_with (first | (go_at_call 46; go_must (refine (rtag_any _ _ key bd _ (Rd.ext HK.out HXR.out) HOB.out.bs hk hbl).mono ?_; rintro e w9 ⟨rfl, hx9⟩; rw [HT.out]; have HO9 := Lib.hid (HOB.out.grow hx9); clear hx9)) | (go_at_call 50; go_must (refine (slice_any T HTl.out _).mono ?_; rintro e w10 ⟨v10, rfl, hn10⟩; have HB10 := Lib.hid hn10.bs; have HO10 := Lib.hid (HO9.out.grow hn10.ext); clear hn10)) | (at_builtin; go_must (refine wpList_append_m rfl _ _ rfl _ rfl HO10.out.own _ rfl HB10.out (by rw [HTl.out]; exact hbl2) ?_; intro v11 w11 ho11 hg11 hf11; have HO11 := Lib.hid (HO10.out.app ho11 hg11 hf11); clear ho11 hg11 hf11)))
      refine bodyPost_ret (results_tmp2 rfl _ _ _) rfl ?_
      exact ⟨_, rfl, by rw [HEN.out, HT.out]; exact HO11.out.bs, HX.out.trans HO11.out.ext⟩
end Go.Proofs.Ytapojpjmeadabaa
end

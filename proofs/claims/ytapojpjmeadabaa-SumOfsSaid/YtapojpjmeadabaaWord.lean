/- sum.words, sum.digest. -/
import Derived.Test.YtapojpjmeadabaaNumf
namespace Go.Proofs.Ytapojpjmeadabaa
open Go.RowKit
set_option linter.unusedVariables false
set_option linter.unusedSimpArgs false
attribute [local go_sem] lt_ext cell?_ext frozen?_ext shape?_ext

abbrev W64 (n : Nat) : Value := .int .u64 (n : Int)
def row64 (f : Nat → Nat) : Array Value := #[W64 (f 0), W64 (f 1), W64 (f 2), W64 (f 3)]
abbrev Wd4 (f : Nat → Nat) : Value := .agg (row64 f)
def z64 : Nat → Nat := fun _ => 0
theorem below4 (k : Nat) (hk : k < 4) : k = 0 ∨ k = 1 ∨ k = 2 ∨ k = 3 := by omega
theorem row64_size (f : Nat → Nat) : (row64 f).size = 4 := rfl
theorem row64_get (f : Nat → Nat) (i : Nat) (hi : i < 4) : (row64 f)[i]? = some (W64 (f i)) := by
  rcases below4 i hi with h|h|h|h <;> subst h <;> rfl
def setW (f : Nat → Nat) (k x : Nat) : Nat → Nat := fun i => if i = k then x else f i
theorem row64_set (f : Nat → Nat) (k x : Nat) (hk : k < 4) : (row64 f).setIfInBounds k (W64 x) = row64 (setW f k x) := by
  rcases below4 k hk with h|h|h|h <;> subst h <;> rfl
theorem row64_congr {f g : Nat → Nat} (h : ∀ i, i < 4 → f i = g i) : row64 f = row64 g := by
  unfold row64
  rw [h 0 (by omega), h 1 (by omega), h 2 (by omega), h 3 (by omega)]
theorem zero121 : (∀ w, (zeroValue 121).run Try.prog w = .ok (Wd4 z64) w) ∧ (Try.prog.info? 121).map (·.size) = some 4 := zero_of_info (by kernel_rfl)
theorem size121 (f : Nat → Nat) : (Try.prog.info? 121).map (·.size) = some (row64 f).size := zero121.2
theorem row64_one (f : Nat → Nat) : (row64 f).all (·.oneCell') = true := by simp [row64, Value.oneCell']
/-- A block of four words. -/
abbrev Blw (w : World) (g : Nat) (f : Nat → Nat) : Prop := w.heap[g]? = some (.cells (row64 f) 121 (0, 0))
theorem Blw.lt {w : World} {g : Nat} {f : Nat → Nat} (h : Blw w g f) : g < w.heap.size := (Array.getElem?_eq_some_iff.1 h).1
theorem Blw.cell {w : World} {g : Nat} {f : Nat → Nat} (h : Blw w g f) (i : Nat) (hi : i < 4) : w.cell? ⟨g, i, none⟩ = some (W64 (f i)) := by
  rw [cell_of_row _ _ _ _ _ _ h]; exact row64_get f i hi
theorem Blw.frozen {w : World} {g : Nat} {f : Nat → Nat} (h : Blw w g f) (i : Nat) : w.frozen? ⟨g, i, none⟩ = false := frozen_of_row _ _ _ _ _ h
theorem Blw.ext {w w' : World} {g : Nat} {f : Nat → Nat} (h : Blw w g f) (hx : Ext w w') : Blw w' g f := (hx.block h.lt).trans h
theorem Blw.set {w : World} {g : Nat} {f : Nat → Nat} (h : Blw w g f) (i x : Nat) (hi : i < 4) : Blw (w.setCell ⟨g, i, none⟩ (W64 x)) g (setW f i x) := by
  have h1 := heap_setCell_same _ _ i _ _ (W64 x) h
  rw [row64_set f i x hi] at h1
  exact h1
theorem Blw.congr {w : World} {g : Nat} {f f' : Nat → Nat} (h : Blw w g f) (he : ∀ i, i < 4 → f i = f' i) : Blw w g f' := by
  unfold Blw at h ⊢
  rw [← row64_congr he]; exact h
theorem other_cell {w : World} {g k i : Nat} {v : Value} {o : Option Obj} (h : w.heap[g]? = o) (hk : g ≠ k) : (w.setCell ⟨k, i, none⟩ v).heap[g]? = o :=
  (Below.heap_setCell w ⟨k, i, none⟩ v g (fun e => hk e)).trans h
theorem wpl_load121 {ops : Array Oper} {rest : List Oper} {o : Oper} {a : Act} {w : World} {Q : Exit → Act → World → Prop} (hgd : o.guard = none) (x : Operand) (ho : o.op = .load 121 x)
    (g : Nat) (hx : a.eval x = .pointer (some ⟨g, 0, none⟩)) (f : Nat → Nat) (hg : Blw w g f)
    (h : wpList Try.prog ops Q rest (a.put o.dst (Wd4 f)) w) : wpList Try.prog ops Q (o :: rest) a w :=
  wpList_load_row hgd 121 x ho g hx 121 _ (0, 0) _ hg Try.underlying121 rfl (size121 f) h
theorem wpl_store121 {ops : Array Oper} {rest : List Oper} {o : Oper} {a : Act} {w : World} {Q : Exit → Act → World → Prop} (hgd : o.guard = none) (x y : Operand) (ho : o.op = .store 121 x y)
    (g : Nat) (f f0 : Nat → Nat) (hx : a.eval x = .pointer (some ⟨g, 0, none⟩)) (hy : a.eval y = Wd4 f) (hg : Blw w g f0)
    (h : ∀ w', Blw w' g f → Upd w w' g → wpList Try.prog ops Q rest (a.put o.dst undef) w') : wpList Try.prog ops Q (o :: rest) a w :=
  wpList_store_row hgd 121 x y ho g _ hx hy 121 _ hg (size121 f) rfl (row64_one f)
    (h _ (setRow_heap _ _ _ _ _ _ hg) ⟨rfl, rfl, rfl, by simp, fun k _ hk => setRow_other w g k _ (fun e => hk (by rw [e]))⟩)
theorem ret121 {fn : Func} {p : Tmp} {R : Ending → World → Prop} {a : Act} {w : World} (hr : fn.results = #[.cell p 121]) (g : Nat) (f : Nat → Nat)
    (hp : a.tmps.getD p undef = .pointer (some ⟨g, 0, none⟩)) (hg : Blw w g f) (hd : a.defers = []) (hR : R (.returned (Wd4 f)) w) : bodyPost Try.prog fn R .ret a w :=
  bodyPost_ret (results_cell_row hr a.tmps w g 121 _ (0, 0) _ hp hg Try.underlying121 rfl (size121 f)) hd hR

/-- The first k of the words. -/
def wdk (n k : Nat) : Nat → Nat := fun i => if i < k then wd n i else 0
theorem wdk_next (n k : Nat) : ∀ i, setW (wdk n k) k (wd n k) i = wdk n (k + 1) i := by
  intro i
  unfold setW wdk
  by_cases h : i = k
  · subst h; simp
  · rw [if_neg h]
    by_cases h2 : i < k
    · rw [if_pos h2, if_pos (by omega)]
    · rw [if_neg h2, if_neg (by omega)]
theorem three_new (w : World) (a b c : Obj) : ((((w.alloc a).alloc b).alloc c).heap[w.heap.size]? = some a ∧ (((w.alloc a).alloc b).alloc c).heap[w.heap.size + 1]? = some b ∧ (((w.alloc a).alloc b).alloc c).heap[w.heap.size + 2]? = some c) ∧ Ext w (((w.alloc a).alloc b).alloc c) ∧ (((w.alloc a).alloc b).alloc c).heap.size = w.heap.size + 3 := by
  have h1 := heap_alloc_last w a
  have h2 := heap_alloc_last (w.alloc a) b
  have h3 := heap_alloc_last ((w.alloc a).alloc b) c
  simp only [World.size_alloc] at h2 h3
  refine ⟨⟨?_, ?_, h3⟩, (((Ext.refl w).alloc a).alloc b).alloc c, by simp⟩
  · exact ((((Ext.refl (w.alloc a)).alloc b).alloc c).block (by simp)).trans h1
  · exact (((Ext.refl ((w.alloc a).alloc b)).alloc c).block (by simp)).trans h2
set_option maxRecDepth 100000 in
set_option maxHeartbeats 1000000 in
theorem words_of (D : List UInt8) (hD : D.length = 32) (w : World) :
    Calls Try.prog 99 #[Dig D] w fun e w' => e = .returned (Wd4 (wd (spell D))) ∧ Ext w w' := by
  have HD := Lib.hid hD
  clear hD
  obtain ⟨N, hN⟩ : ∃ N, spell D = N := ⟨_, rfl⟩
  rw [hN]
  have HN := Lib.hid hN
  clear hN
  go_enter Try.func99, Try.ntmps99
  go_wp2_with (refine wpl_alloc_agg rfl 121 rfl _ zero121.1 ?_)
  obtain ⟨⟨h0, h1, h2⟩, hx, hs⟩ := three_new w (.cells (row8 D) 27) (.cells (row64 z64) 121) (.cells (row64 z64) 121)
  generalize ((w.alloc (.cells (row8 D) 27)).alloc (.cells (row64 z64) 121)).alloc (.cells (row64 z64) 121) = w0 at *
  have HA := Lib.hid (show Blk w0 w.heap.size 27 D from h0)
  have HB := Lib.hid (show Blw w0 (w.heap.size + 1) z64 from h1)
  have HC := Lib.hid (show Blw w0 (w.heap.size + 2) z64 from h2)
  have HX := Lib.hid hx
  clear h0 h1 h2 hx hs
  go_loopw [5, 4] (fun i q wr => ∃ k : Nat, k ≤ 4 ∧ i = .int .i64 k ∧ Blk wr w.heap.size 27 D ∧ Blw wr (w.heap.size + 1) z64 ∧ Blw wr (w.heap.size + 2) (wdk N k) ∧ Ext w wr) (fun i _ _ => 4 - (intOf i).toNat)
  case atStart => exact ⟨0, by omega, rfl, HA.out, HB.out, HC.out, HX.out⟩
  case round =>
    obtain ⟨k, hk, rfl, hA, hB, hC, hx⟩ := hrel
    clear HA HB HC HX
    have HA := Lib.hid hA
    have HB := Lib.hid hB
    have HC := Lib.hid hC
    have HX := Lib.hid hx
    have hl1 := hC.lt
    have hf := hC.frozen k
    clear hA hB hC hx
    by_cases hlt : k < 4
    · have HS : Hid (spell ((D.take (32 - 8 * k)).drop (24 - 8 * k)) = wd N k) := Lib.hid (by rw [← HN.out]; exact spell_wd D HD.out k hlt)
      rcases below4 k hlt with rfl|rfl|rfl|rfl
      · have hc := HC.out.cell 0 (by omega)
        have hold : wdk N 0 0 = 0 := by simp [wdk]
        rw [hold] at hc
        clear hold
        have hbs : Bs wr (.slice (some ⟨w.heap.size, 24, none⟩) 8 (32 - 24)) ((D.take (32 - 8 * 0)).drop (24 - 8 * 0)) := by
          have h := HA.out.bs 24 8 (32 - 24) (by have := HD.out; omega) (by decide) (by decide)
          rw [show (D.drop 24).take 8 = (D.take (32 - 8 * 0)).drop (24 - 8 * 0) by rw [List.drop_take]] at h
          exact h
        have HBS := Lib.hid hbs
        clear hbs
        have hx32 : (wd N 0) < 18446744073709551616 := wd_lt _ _
        have HW := Lib.hid hx32
        clear hx32
        obtain ⟨x, hx⟩ : ∃ x, wd N 0 = x := ⟨_, rfl⟩
        rw [hx] at HS HW
        have HWX := Lib.hid hx
        clear hx
        go_wp2_with (go_at_call 105; go_must (refine (cget_any _ _ (by have := HD.out; simp; omega) _ HBS.out).mono ?_; rintro e w1 ⟨rfl, rfl⟩; rw [HS.out]))
        go_roundw
        case rel =>
          refine ⟨0 + 1, by omega, by go_num, (other_cell HA.out (by omega)), (other_cell HB.out (by omega)), ?_, Ext.setCell_new HX.out trivial (by show w.heap.size ≤ w.heap.size + 2; omega)⟩
          have := (HC.out.set 0 x (by omega)).congr (fun i _ => (congrArg (fun z => setW (wdk N 0) 0 z i) HWX.out.symm).trans (wdk_next N 0 i))
          exact this
        case measure => simp [intOf]
      · have hc := HC.out.cell 1 (by omega)
        have hold : wdk N 1 1 = 0 := by simp [wdk]
        rw [hold] at hc
        clear hold
        have hbs : Bs wr (.slice (some ⟨w.heap.size, 16, none⟩) 8 (32 - 16)) ((D.take (32 - 8 * 1)).drop (24 - 8 * 1)) := by
          have h := HA.out.bs 16 8 (32 - 16) (by have := HD.out; omega) (by decide) (by decide)
          rw [show (D.drop 16).take 8 = (D.take (32 - 8 * 1)).drop (24 - 8 * 1) by rw [List.drop_take]] at h
          exact h
        have HBS := Lib.hid hbs
        clear hbs
        have hx32 : (wd N 1) < 18446744073709551616 := wd_lt _ _
        have HW := Lib.hid hx32
        clear hx32
        obtain ⟨x, hx⟩ : ∃ x, wd N 1 = x := ⟨_, rfl⟩
        rw [hx] at HS HW
        have HWX := Lib.hid hx
        clear hx
        go_wp2_with (go_at_call 105; go_must (refine (cget_any _ _ (by have := HD.out; simp; omega) _ HBS.out).mono ?_; rintro e w1 ⟨rfl, rfl⟩; rw [HS.out]))
        go_roundw
        case rel =>
          refine ⟨1 + 1, by omega, by go_num, (other_cell HA.out (by omega)), (other_cell HB.out (by omega)), ?_, Ext.setCell_new HX.out trivial (by show w.heap.size ≤ w.heap.size + 2; omega)⟩
          have := (HC.out.set 1 x (by omega)).congr (fun i _ => (congrArg (fun z => setW (wdk N 1) 1 z i) HWX.out.symm).trans (wdk_next N 1 i))
          exact this
        case measure => simp [intOf]
      · have hc := HC.out.cell 2 (by omega)
        have hold : wdk N 2 2 = 0 := by simp [wdk]
        rw [hold] at hc
        clear hold
        have hbs : Bs wr (.slice (some ⟨w.heap.size, 8, none⟩) 8 (32 - 8)) ((D.take (32 - 8 * 2)).drop (24 - 8 * 2)) := by
          have h := HA.out.bs 8 8 (32 - 8) (by have := HD.out; omega) (by decide) (by decide)
          rw [show (D.drop 8).take 8 = (D.take (32 - 8 * 2)).drop (24 - 8 * 2) by rw [List.drop_take]] at h
          exact h
        have HBS := Lib.hid hbs
        clear hbs
        have hx32 : (wd N 2) < 18446744073709551616 := wd_lt _ _
        have HW := Lib.hid hx32
        clear hx32
        obtain ⟨x, hx⟩ : ∃ x, wd N 2 = x := ⟨_, rfl⟩
        rw [hx] at HS HW
        have HWX := Lib.hid hx
        clear hx
        go_wp2_with (go_at_call 105; go_must (refine (cget_any _ _ (by have := HD.out; simp; omega) _ HBS.out).mono ?_; rintro e w1 ⟨rfl, rfl⟩; rw [HS.out]))
        go_roundw
        case rel =>
          refine ⟨2 + 1, by omega, by go_num, (other_cell HA.out (by omega)), (other_cell HB.out (by omega)), ?_, Ext.setCell_new HX.out trivial (by show w.heap.size ≤ w.heap.size + 2; omega)⟩
          have := (HC.out.set 2 x (by omega)).congr (fun i _ => (congrArg (fun z => setW (wdk N 2) 2 z i) HWX.out.symm).trans (wdk_next N 2 i))
          exact this
        case measure => simp [intOf]
      · have hc := HC.out.cell 3 (by omega)
        have hold : wdk N 3 3 = 0 := by simp [wdk]
        rw [hold] at hc
        clear hold
        have hbs : Bs wr (.slice (some ⟨w.heap.size, 0, none⟩) 8 (32 - 0)) ((D.take (32 - 8 * 3)).drop (24 - 8 * 3)) := by
          have h := HA.out.bs 0 8 (32 - 0) (by have := HD.out; omega) (by decide) (by decide)
          rw [show (D.drop 0).take 8 = (D.take (32 - 8 * 3)).drop (24 - 8 * 3) by rw [List.drop_take]] at h
          exact h
        have HBS := Lib.hid hbs
        clear hbs
        have hx32 : (wd N 3) < 18446744073709551616 := wd_lt _ _
        have HW := Lib.hid hx32
        clear hx32
        obtain ⟨x, hx⟩ : ∃ x, wd N 3 = x := ⟨_, rfl⟩
        rw [hx] at HS HW
        have HWX := Lib.hid hx
        clear hx
        go_wp2_with (go_at_call 105; go_must (refine (cget_any _ _ (by have := HD.out; simp; omega) _ HBS.out).mono ?_; rintro e w1 ⟨rfl, rfl⟩; rw [HS.out]))
        go_roundw
        case rel =>
          refine ⟨3 + 1, by omega, by go_num, (other_cell HA.out (by omega)), (other_cell HB.out (by omega)), ?_, Ext.setCell_new HX.out trivial (by show w.heap.size ≤ w.heap.size + 2; omega)⟩
          have := (HC.out.set 3 x (by omega)).congr (fun i _ => (congrArg (fun z => setW (wdk N 3) 3 z i) HWX.out.symm).trans (wdk_next N 3 i))
          exact this
        case measure => simp [intOf]
    · obtain rfl : k = 4 := by omega
      have e : Blw wr (w.heap.size + 2) (wd N) := HC.out.congr (fun i hi => by unfold wdk; rw [if_pos hi])
      have HE := Lib.hid e
      clear e HC hf
      go_wp2_with (first | (refine wpl_load121 rfl _ rfl (w.heap.size + 2) rfl (wd N) HE.out ?_) | (refine wpl_store121 rfl _ _ rfl (w.heap.size + 1) (wd N) z64 rfl rfl HB.out ?_; intro w8 h8 hu8; have H8 := Lib.hid h8; have HX8 := Lib.hid (HX.out.upd_new hu8 (Nat.le_succ _)); clear h8 hu8))
      exact ret121 rfl (w.heap.size + 1) (wd N) rfl H8.out rfl ⟨rfl, HX8.out⟩
end Go.Proofs.Ytapojpjmeadabaa

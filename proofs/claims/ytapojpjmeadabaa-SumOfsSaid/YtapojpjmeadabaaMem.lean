/- Words on memory: worlds that have only grown; slices of bytes; arrays of words. Small laws that the walks take up. -/
import Derived.Test.YtapojpjmeadabaaReg
import Derived.Test.YtapojpjmeadabaaNum
import Derived.Test.YtapojpjmeadabaaRows
import Derived.WalkSpells
import Derived.WalkLawsBesides
import Derived.StillTailTactics
import Derived.Deep.WholeRow
import Derived.BigQuiet
import Derived.Lib.Hide
import Derived.Deep.LoopGhost
import Derived.Deep.DeepCutAuto
import Derived.WalkMore
import Derived.Laws.Rows
import Derived.Laws.Tables
namespace Go.Proofs.Ytapojpjmeadabaa
open Go.RowKit
set_option linter.unusedVariables false
set_option linter.unusedSimpArgs false

/-! ### A world that has only grown -/
structure Grow (w : World) where
  nw : World
  up : Ext w nw
instance (w : World) : Nonempty (Grow w) := ⟨⟨w, Ext.refl w⟩⟩
def _root_.Go.World.ext (w : World) (x : Grow w) : World := x.nw
theorem ext_ext (w : World) (x : Grow w) : Ext w (w.ext x) := x.up
theorem mk_ext {w w' : World} (h : Ext w w') : ∃ x, w' = w.ext x := ⟨⟨w', h⟩, rfl⟩
theorem ext_heap (w : World) (x : Grow w) (k : Nat) (h : k < w.heap.size) : (w.ext x).heap[k]? = w.heap[k]? := x.up.block h
theorem cell?_ext (w : World) (x : Grow w) (b i : Nat) (h : b < w.heap.size) : (w.ext x).cell? ⟨b, i, none⟩ = w.cell? ⟨b, i, none⟩ := World.cell?_of_block (ext_heap w x b h)
theorem frozen?_ext (w : World) (x : Grow w) (b i : Nat) (h : b < w.heap.size) : (w.ext x).frozen? ⟨b, i, none⟩ = w.frozen? ⟨b, i, none⟩ := World.frozen?_of_block (ext_heap w x b h)
theorem ext_join (w : World) (x : Grow w) (y : Grow (w.ext x)) : ∃ z : Grow w, (w.ext x).ext y = w.ext z := ⟨⟨(w.ext x).ext y, x.up.trans y.up⟩, rfl⟩
theorem lt_ext (w : World) (x : Grow w) (b : Nat) (h : b < w.heap.size) : b < (w.ext x).heap.size := Nat.lt_of_lt_of_le h x.up.size
theorem shape?_ext (w : World) (x : Grow w) (b : Nat) (h : b < w.heap.size) : (w.ext x).shape? b = w.shape? b := by unfold World.shape?; rw [ext_heap w x b h]
theorem Ext.cell {w w' : World} (h : Ext w w') (b i : Nat) (hb : b < w.heap.size) : w'.cell? ⟨b, i, none⟩ = w.cell? ⟨b, i, none⟩ := World.cell?_of_block (h.block hb)

theorem wp_region_qx {P : Program} {id : Nat} {Q : Exit → Act → World → Prop} {a : Act} {w : World} {l : List Oper} (hm : P.follows .mixedOrders = true) (hB : Region.lexB .any l.toArray = true)
    (h : wpQuiet P l.toArray (fun w' => ∃ x : Grow w, w' = w.ext x) (fun a' => ∀ x : Grow w, Q .normal a' (w.ext x)) l a) : (Code.region id l.toArray true).wp P Q a w :=
  wp_region_quiet (C := fun w' => ∃ x : Grow w, w' = w.ext x) (Q := Q) hm hB (mk_ext (Ext.refl w).drew) (by
    have e : (fun a' : Act => ∀ x : Grow w, Q .normal a' (w.ext x)) = (fun a' => ∀ w', (∃ x : Grow w, w' = w.ext x) → Q .normal a' w') := by
      funext a'
      exact propext ⟨fun h w' ⟨x, hx⟩ => hx ▸ h x, fun h x => h _ ⟨x, rfl⟩⟩
    rw [e] at h
    simpa using h)
theorem wp_region_qxt {P : Program} {id : Nat} {Q : Exit → Act → World → Prop} {a : Act} {w : World} {l : List Oper} (n : Nat) (hm : P.follows .mixedOrders = true) (hB : Region.lexTailB .any l.toArray n = true)
    (h : wpQuiet P l.toArray (fun w' => ∃ x : Grow w, w' = w.ext x) (fun a' => ∀ x : Grow w, wpList P l.toArray Q (l.drop n) a' (w.ext x)) (l.take n) a) : (Code.region id l.toArray true).wp P Q a w :=
  wp_region_qt n (fun w' => ∃ x : Grow w, w' = w.ext x) (mk_ext (Ext.refl w).drew) hm hB (by
    have e : (fun a' : Act => ∀ x : Grow w, wpList P l.toArray Q (l.drop n) a' (w.ext x)) = (fun a' => ∀ w', (∃ x : Grow w, w' = w.ext x) → wpList P l.toArray Q (l.drop n) a' w') := by
      funext a'
      exact propext ⟨fun h w' ⟨x, hx⟩ => hx ▸ h x, fun h x => h _ ⟨x, rfl⟩⟩
    rw [e] at h
    exact h)
theorem wp_region_gx {P : Program} {id : Nat} {Q : Exit → Act → World → Prop} {a : Act} {w : World} {l : List Oper} (hm : P.follows .mixedOrders = true) (hB : Region.lexB .any l.toArray = true)
    (h : wpG P l.toArray (Cls.grown w) a.defers (gPost (Cls.grown w) a.defers (fun a' w' => Q .normal a' w')) l (a.tmps.toList.map .v)) : (Code.region id l.toArray true).wp P Q a w :=
  wp_region_c (Cls.grown w) (Ext.refl w).drew hm hB h
theorem wp_region_gxt {P : Program} {id : Nat} {Q : Exit → Act → World → Prop} {a : Act} {w : World} {l : List Oper} (n : Nat) (hm : P.follows .mixedOrders = true) (hB : Region.lexTailB .any l.toArray n = true)
    (h : wpG P l.toArray (Cls.grown w) a.defers (gPost (Cls.grown w) a.defers (fun a' w' => wpList P l.toArray Q (l.drop n) a' w')) (l.take n) (a.tmps.toList.map .v)) : (Code.region id l.toArray true).wp P Q a w :=
  wp_region_ct n (Cls.grown w) (Ext.refl w).drew hm hB h
/-- A callee that leaves what was there, met in a world that has grown. -/
theorem Calls.in_ext {P : Program} {f : FuncId} {args : Array Value} {w : World} {x : Grow w} {v : Value}
    (h : Calls P f args (w.ext x) fun e w' => e = .returned v ∧ Ext (w.ext x) w') : Calls P f args (w.ext x) fun e w'' => e = .returned v ∧ ∃ y : Grow w, w'' = w.ext y :=
  h.mono fun _ _ ⟨he, hx⟩ => ⟨he, mk_ext (x.up.trans hx)⟩
theorem Calls.in_ext_same {P : Program} {f : FuncId} {args : Array Value} {w : World} {x : Grow w} {v : Value}
    (h : Calls P f args (w.ext x) fun e w' => e = .returned v ∧ w.ext x = w') : Calls P f args (w.ext x) fun e w'' => e = .returned v ∧ ∃ y : Grow w, w'' = w.ext y :=
  h.mono fun _ _ ⟨he, hx⟩ => ⟨he, x, hx.symm⟩

/-- A store into a block that is new. -/
theorem Ext.setCell_new {a b : World} (h : Ext a b) {p : Addr} (_ : True) (hp : a.heap.size ≤ p.block) {u : Value} : Ext a (b.setCell p u) := Below.setCell h hp u

/-! ### Arrays of words -/
def z32 : Value := .int .u32 0
def row32 (n : Nat) (l : List (BitVec 32)) : Array Value := (l.map W32 ++ List.replicate (n - l.length) z32).toArray
theorem row32_size {n : Nat} {l : List (BitVec 32)} (h : l.length ≤ n) : (row32 n l).size = n := by simp [row32]; omega
theorem row32_get {n : Nat} {l : List (BitVec 32)} {i : Nat} (h : i < l.length) : (row32 n l)[i]? = some (W32 (l.getD i 0)) := by
  simp [row32, List.getElem?_append_left, h]
theorem row32_push {n : Nat} {l : List (BitVec 32)} (x : BitVec 32) (h : l.length < n) : (row32 n l).setIfInBounds l.length (W32 x) = row32 n (l ++ [x]) := by
  unfold row32
  apply Array.ext'
  simp only [Array.toList_setIfInBounds, List.map_append, List.map_cons, List.map_nil, List.length_append, List.length_cons, List.length_nil]
  rw [List.set_append_right _ _ (by simp)]
  simp only [List.length_map, Nat.sub_self]
  obtain ⟨m, hm⟩ : ∃ m, n - l.length = m + 1 := ⟨n - l.length - 1, by omega⟩
  rw [hm, show n - (l.length + (0 + 1)) = m by omega]
  simp [List.replicate_succ]
theorem row32_one (n : Nat) (l : List (BitVec 32)) : (row32 n l).all (·.oneCell') = true := by
  simp [row32, Value.oneCell', z32]
theorem row32_zero {w : World} {b n T k : Nat} {l : List (BitVec 32)} (h : w.heap[b]? = some (.cells (row32 n l) T (0, 0))) (hk : l.length ≤ k) (hn : k < n) : w.cell? ⟨b, k, none⟩ = some z32 := by
  rw [cell_of_row w b k _ T _ h]
  simp only [row32, List.getElem?_toArray]
  rw [List.getElem?_append_right (by simpa using hk)]
  simp only [List.length_map]
  rw [List.getElem?_replicate, if_pos (by omega)]
theorem zero98 : (∀ w, (zeroValue 98).run Try.prog w = .ok (.agg (row32 64 [])) w) ∧ (Try.prog.info? 98).map (·.size) = some 64 := zero_of_info (by kernel_rfl)
theorem wp_alloc_agg {P : Program} {o : Oper} {a : Act} {w : World} {K : Act → World → Prop} {Q : Exit → Act → World → Prop} (E : TypeId) (ho : o.op = .alloc E) (z : Array Value)
    (hz : ∀ w, (zeroValue E).run P w = .ok (.agg z) w) (h : K (a.put o.dst (.pointer (some ⟨w.heap.size, 0, none⟩))) (w.alloc (.cells z E))) : o.wp P a w K Q := by
  unfold Oper.wp execOp
  simp only [ho, Instr.alloc, Sem.run_bind, hz, Result.andThen_ok]
  exact h
theorem wpl_alloc_agg {P : Program} {ops : Array Oper} {rest : List Oper} {o : Oper} {a : Act} {w : World} {Q : Exit → Act → World → Prop} (hgd : o.guard = none) (E : TypeId) (ho : o.op = .alloc E) (z : Array Value)
    (hz : ∀ w, (zeroValue E).run P w = .ok (.agg z) w) (h : wpList P ops Q rest (a.put o.dst (.pointer (some ⟨w.heap.size, 0, none⟩))) (w.alloc (.cells z E))) : wpList P ops Q (o :: rest) a w :=
  wpList_plain hgd fun _ hK => wp_alloc_agg E ho z hz (hK _ _ h)
theorem size98 (l : List (BitVec 32)) (h : l.length ≤ 64) : (Try.prog.info? 98).map (·.size) = some (row32 64 l).size := by rw [row32_size h]; exact zero98.2
theorem wpl_load98 {ops : Array Oper} {rest : List Oper} {o : Oper} {a : Act} {w : World} {Q : Exit → Act → World → Prop} (hgd : o.guard = none) (x : Operand) (ho : o.op = .load 98 x)
    (g : Nat) (hx : a.eval x = .pointer (some ⟨g, 0, none⟩)) (l : List (BitVec 32)) (hl : l.length ≤ 64) (hg : w.heap[g]? = some (.cells (row32 64 l) 98 (0, 0)))
    (h : wpList Try.prog ops Q rest (a.put o.dst (.agg (row32 64 l))) w) : wpList Try.prog ops Q (o :: rest) a w :=
  wpList_load_row hgd 98 x ho g hx 98 _ (0, 0) _ hg Try.underlying98 rfl (size98 l hl) h
theorem wpl_store98 {ops : Array Oper} {rest : List Oper} {o : Oper} {a : Act} {w : World} {Q : Exit → Act → World → Prop} (hgd : o.guard = none) (x y : Operand) (ho : o.op = .store 98 x y)
    (g : Nat) (l l0 : List (BitVec 32)) (hx : a.eval x = .pointer (some ⟨g, 0, none⟩)) (hy : a.eval y = .agg (row32 64 l)) (hl : l.length ≤ 64) (hl0 : l0.length ≤ 64) (hg : w.heap[g]? = some (.cells (row32 64 l0) 98 (0, 0)))
    (h : wpList Try.prog ops Q rest (a.put o.dst undef) (w.setRow g (row32 64 l))) : wpList Try.prog ops Q (o :: rest) a w :=
  wpList_store_row hgd 98 x y ho g _ hx hy 98 _ hg (size98 l hl) (by rw [row32_size hl, row32_size hl0]) (row32_one 64 l) h

theorem Ext.setRow_new {a b : World} (h : Ext a b) {g : Nat} (hg : a.heap.size ≤ g) (cs : Array Value) : Ext a (b.setRow g cs) :=
  Below.trans h ⟨rfl, rfl, rfl, by simp, fun k hk => by simp only [World.setRow, Array.getElem?_modify]; rw [if_neg (by omega)]⟩
theorem ret98 {fn : Func} {p : Tmp} {R : Ending → World → Prop} {a : Act} {w : World} (hr : fn.results = #[.cell p 98]) (g : Nat) (l : List (BitVec 32)) (hl : l.length ≤ 64)
    (hp : a.tmps.getD p undef = .pointer (some ⟨g, 0, none⟩)) (hg : w.heap[g]? = some (.cells (row32 64 l) 98 (0, 0))) (hd : a.defers = []) (hR : R (.returned (.agg (row32 64 l))) w) : bodyPost Try.prog fn R .ret a w :=
  bodyPost_ret (results_cell_row hr a.tmps w g 98 _ (0, 0) _ hp hg Try.underlying98 rfl (size98 l hl)) hd hR

/-! ### Worlds in which one old block has turned -/
abbrev Upd (w w' : World) (g : Nat) : Prop := w.grownBy w' (some g)
theorem Upd.of_ext {w w' : World} (h : Ext w w') (g : Nat) : Upd w w' g := ⟨h.os, h.tape, h.output, h.size, fun i hi _ => h.block hi⟩
theorem Upd.trans {a b c : World} {g : Nat} (h : Upd a b g) (k : Upd b c g) : Upd a c g :=
  ⟨k.os.trans h.os, k.tape.trans h.tape, k.output.trans h.output, Nat.le_trans h.size k.size, fun i hi hn => (k.block i (Nat.lt_of_lt_of_le hi h.size) hn).trans (h.block i hi hn)⟩
theorem Upd.setCell {a b : World} {g : Nat} (h : Upd a b g) {p : Addr} (hp : p.block = g ∨ a.heap.size ≤ p.block) (u : Value) : Upd a (b.setCell p u) g :=
  ⟨h.os, h.tape, h.output, by simpa [World.setCell] using h.size, fun i hi hne => (Below.heap_setCell b p u i (by
    rintro rfl
    rcases hp with hp | hp
    · exact hne (by rw [hp])
    · omega)).trans (h.block i hi hne)⟩
theorem Upd.old {a b : World} {g k : Nat} (h : Upd a b g) (hk : k < a.heap.size) (hne : k ≠ g) : b.heap[k]? = a.heap[k]? := h.block k hk (fun e => hne (by injection e))
/-- What was new already may turn as well. -/
theorem Ext.upd_new {a b c : World} {g : Nat} (h : Ext a b) (k : Upd b c g) (hg : a.heap.size ≤ g) : Ext a c :=
  ⟨k.os.trans h.os, k.tape.trans h.tape, k.output.trans h.output, Nat.le_trans h.size k.size, fun i hi => (k.old (Nat.lt_of_lt_of_le hi h.size) (by omega)).trans (h.block hi)⟩

/-! ### A Hash's cells: eight words, what is left, how many there were, its constants -/
def hcells (L : List (BitVec 32)) (rest long kp : Value) : Array Value := (L.map W32 ++ [rest, long, kp]).toArray
theorem hcells_get {L : List (BitVec 32)} {rest long kp : Value} {i : Nat} (h : i < L.length) : (hcells L rest long kp)[i]? = some (W32 (L.getD i 0)) := by
  simp [hcells, List.getElem?_append_left, h]
theorem hcells_set {L : List (BitVec 32)} {rest long kp : Value} {i : Nat} (x : BitVec 32) (h : i < L.length) : (hcells L rest long kp).setIfInBounds i (W32 x) = hcells (L.set i x) rest long kp := by
  simp only [hcells, List.setIfInBounds_toArray]
  rw [List.set_append_left _ _ (by simpa using h), List.map_set]
end Go.Proofs.Ytapojpjmeadabaa

/- Blocks of bytes: made, set, sliced, appended to by noughts. -/
import Derived.Test.YtapojpjmeadabaaRegy
import Derived.Test.YtapojpjmeadabaaRefa
import Derived.Laws.OwnMore
namespace Go.Proofs.Ytapojpjmeadabaa
open Go.RowKit
set_option linter.unusedVariables false
set_option linter.unusedSimpArgs false

/-- A block of bytes, known whole. -/
abbrev Blk (w : World) (g : Nat) (T : TypeId) (l : List UInt8) : Prop := w.heap[g]? = some (.cells (row8 l) T (0, 0))
theorem Blk.lt {w : World} {g T : Nat} {l : List UInt8} (h : Blk w g T l) : g < w.heap.size := (Array.getElem?_eq_some_iff.1 h).1
theorem Blk.cell {w : World} {g T : Nat} {l : List UInt8} (h : Blk w g T l) (i : Nat) (hi : i < l.length) : w.cell? ⟨g, i, none⟩ = some (B8 (l.getD i 0)) := by
  rw [cell_of_row _ _ _ _ _ _ h]; exact row8_get hi
theorem Blk.frozen {w : World} {g T : Nat} {l : List UInt8} (h : Blk w g T l) (i : Nat) : w.frozen? ⟨g, i, none⟩ = false := frozen_of_row _ _ _ _ _ h
theorem Blk.ext {w w' : World} {g T : Nat} {l : List UInt8} (h : Blk w g T l) (hx : Ext w w') : Blk w' g T l := (hx.block h.lt).trans h
theorem Blk.set {w : World} {g T : Nat} {l : List UInt8} (h : Blk w g T l) (i : Nat) (x : UInt8) : Blk (w.setCell ⟨g, i, none⟩ (B8 x)) g T (l.set i x) := by
  have h1 := heap_setCell_same _ _ i _ _ (B8 x) h
  rw [row8_set] at h1
  exact h1
theorem Blk.bs {w : World} {g T : Nat} {l : List UInt8} (h : Blk w g T l) (i n cap : Nat) (hn : i + n ≤ l.length) (hc : n ≤ cap) (hm : cap ≤ 4294967296) : Bs w (.slice (some ⟨g, i, none⟩) n cap) ((l.drop i).take n) := by
  have e : ((l.drop i).take n).length = n := by simp; omega
  unfold Bs
  rw [e]
  refine Rd.lit (by rw [List.length_map, e]; omega) hc (Nat.le_trans hm (by unfold maxLen; decide)) h.lt fun j u hj => ?_
  have hj' : j < n := by
    have := (List.getElem?_eq_some_iff.1 hj).1
    rw [List.length_map, e] at this; exact this
  rw [h.cell (i + j) (by omega)]
  rw [List.getElem?_map, List.getElem?_take, if_pos hj', List.getElem?_drop, List.getElem?_eq_getElem (by omega)] at hj
  simp only [Option.map_some, Option.some.injEq] at hj
  rw [← hj]
  simp [List.getElem?_eq_getElem (show i + j < l.length by omega)]
theorem Blk.whole {w : World} {g T : Nat} {l : List UInt8} (h : Blk w g T l) (n cap : Nat) (hn : n = l.length) (hc : n ≤ cap) (hm : cap ≤ 4294967296) : Bs w (.slice (some ⟨g, 0, none⟩) n cap) l := by
  subst hn
  have := h.bs 0 l.length cap (by omega) hc hm
  simpa using this
theorem Blk.own {w : World} {g : Nat} {l : List UInt8} (h : Blk w g 5 l) (n : Nat) (hn : n = l.length) (hm : n ≤ 4294967296) : OwnB w (.slice (some ⟨g, 0, none⟩) n n) l := by
  subst hn
  refine ⟨by simp, .inr ⟨g, l.length, row8 l, rfl, Nat.zero_le _, h, Nat.le_refl _, Nat.le_trans hm (by unfold maxLen; decide), by simp [row8], (by simp only [row8, Nat.mul_one]; exact List.take_of_length_le (by simp))⟩⟩
theorem zeros_cells (n : Nat) : madeCells (Value.int .u8 0).cells (n * 1) = row8 (Sha.zeros n) := by
  have hc : (Value.int .u8 0).cells = #[Value.int .u8 0] := rfl
  rw [hc]
  apply Array.ext'
  apply List.ext_getElem?
  intro i
  simp only [madeCells, row8, Sha.zeros, List.map_replicate, Array.toList_map, Array.toList_range, List.getElem?_map, List.getElem?_range, List.getElem?_replicate]
  by_cases hi : i < n
  · simp [hi, Nat.mod_one, B8, i8]
  · simp [hi]
theorem wpl_make23 {ops : Array Oper} {rest : List Oper} {o : Oper} {a : Act} {w : World} {Q : Exit → Act → World → Prop} (hgd : o.guard = none) (x y : Operand) (ho : o.op = .makeSlice 23 x y)
    (n : Nat) (hx : a.eval x = .int .i64 (n : Int)) (hy : a.eval y = .int .i64 (n : Int)) (hn : n ≤ 4294967296)
    (h : ∀ w', Blk w' w.heap.size 5 (Sha.zeros n) → Ext w w' → w'.heap.size = w.heap.size + 1 → wpList Try.prog ops Q rest (a.put o.dst (.slice (some ⟨w.heap.size, 0, none⟩) n n)) w') : wpList Try.prog ops Q (o :: rest) a w := by
  obtain ⟨i, hi, hz0, hz1, hz2⟩ := info_parts ei23.info
  refine wpList_plain hgd fun K hKK => ?_
  have hr := run_make (P := Try.prog) w 23 5 i _ ei23.t hi hz0 .i64 .i64 (n : Int) (n : Int) (by omega) (Int.le_refl _) (by rw [hz2]; omega) (by omega)
  rw [hz1, Int.toNat_natCast, zeros_cells] at hr
  unfold Oper.wp execOp
  simp only [ho, hx, hy, Sem.run_bind, hr, Result.andThen_ok, Sem.run_pure, Oper.upon]
  exact hKK _ _ (h _ (heap_alloc_last w _) ((Ext.refl w).alloc _) (by simp))

/-- What is known of a slice of bytes. -/
def BsR (l : List UInt8) (u : Value) (w : World) : Prop := Bs w u l
theorem BsR.ext {l : List UInt8} (u : Value) (w w' : World) (hx : Ext w w') (h : BsR l u w) : BsR l u w' := Rd.ext h hx

/-! ### append(out, make([]byte, n)...) -/
theorem zeroCells_eq (n : Nat) : Builtin.zeroCells (Value.int .u8 0).cells n = row8 (Sha.zeros n) := by
  rw [← zeros_cells n, Nat.mul_one]
  simp [Builtin.zeroCells, madeCells, Value.cells]
theorem run_append_zeros (ty : TypeId) (w : World) (v : Value) (l : List UInt8) (hown : OwnB w v l) (m : Nat) (h63 : l.length + m ≤ 4294967296) :
    ∃ v' w', (Builtin.append_ #[23, 3] ty #[v, .int .i64 (m : Int)]).run Try.prog w = .ok v' w' ∧ OwnB w' v' (l ++ Sha.zeros m) ∧ Grew w w' v ∧ (v'.ownBlock = v.ownBlock ∨ ∀ g, v'.ownBlock = some g → w.heap.size ≤ g) := by
  obtain ⟨i, hi, hz0, hz1, hz2⟩ := info_parts ei23.info
  have hwr : IntKind.i64.wrap (m : Int) = m := by rw [IntKind.wrap_i64]; omega
  have n1 : ¬ ((m : Int) < 0) := by omega
  have n2 : ¬ (281474976710656 < (m : Int) * (i.bytes : Int)) := by rw [hz2]; omega
  have hlen : ((l ++ Sha.zeros m).map B8).length = (l.length + m) * 1 := by simp [Sha.zeros]
  have hOl : (l ++ Sha.zeros m).length = l.length + m := by simp [Sha.zeros]
  rcases hown.2 with ⟨rfl, hl0⟩ | ⟨g, cap, cur, rfl, hbg, hg, hnc, hcm, hcs, htake⟩
  · have hl : l = [] := List.eq_nil_of_length_eq_zero hl0
    subst hl
    by_cases hm : m = 0
    · subst hm
      refine ⟨.slice none 0 0, w, ?_, Own.nil w 5 1, World.grownBy.refl _ _, .inl rfl⟩
      have hw0 : IntKind.i64.wrap 0 = 0 := by decide
      simp [hw0, Builtin.append_, run_underlying ei23.t, run_underlying Try.underlying3, sizeOf, typeInfo, hi, asInt, asIntOf, hwr]
    · have hk0 : ¬ (m * i.size = 0) := by rw [hz1]; omega
      have h48 : ¬ (281474976710656 < Builtin.nextslicecap m 0 * i.bytes) := by rw [nextslicecap_zero (by omega), hz2]; omega
      have h63' : ¬ ((9223372036854775807 : Int) < (m : Int)) := by omega
      refine ⟨.slice (some ⟨w.heap.size, 0, none⟩) m (grownCap w m 0 5), w.drew.alloc (.cells ((row8 (Sha.zeros m)) ++ Builtin.zeroCells (Value.int .u8 0).cells (grownCap w m 0 5 - m)) 5), ?_, ?_, ?_, .inr fun g' hv => by injection hv with e1; subst e1; exact Nat.le_refl _⟩
      · simp [Builtin.append_, run_underlying ei23.t, run_underlying Try.underlying3, sizeOf, typeInfo, zeroValue, hi, hz0, asInt, asIntOf, hwr, n1, n2, hm, h48, h63', Question.forced, run_firstCells_none, newRow, grownCap, hz1, zeroCells_eq]
      · refine ⟨hlen.trans (by rw [hOl]), .inr ⟨w.heap.size, _, _, by rw [hOl]; simp, Nat.zero_le _, heap_alloc_new w.drew _, by rw [hOl]; simpa using grownCap_ge w m 0 5, grownCap_le_maxLen w m 0 5 (by unfold maxLen; simp at h63; omega), ?_, ?_⟩⟩
        · have := grownCap_ge w m 0 5
          simp only [Array.size_append, size_zeroCells, row8_size, Sha.zeros, List.length_replicate, Value.cells]
          simp
          omega
        · have e : (Sha.zeros m).length = m := by simp [Sha.zeros]
          simp [row8, e]
      · exact ⟨rfl, rfl, rfl, by simp, fun k hk _ => heap_alloc_old w.drew _ hk⟩
  · by_cases hroom : l.length + m ≤ cap
    · have hfit : l.length + (Sha.zeros m).length ≤ cur.size := by simp [Sha.zeros]; omega
      have hst := run_storeCells_at Try.prog g (l.length * 1) 5 ((Sha.zeros m).map B8) 0 cur w hg (by simpa using hfit) (one_bytes _)
      simp only [Nat.add_zero] at hst
      refine ⟨.slice (some ⟨g, 0, none⟩) (l.length + m) cap, w.setRow g (cur.toList.take (l.length * 1) ++ (Sha.zeros m).map B8 ++ cur.toList.drop (l.length * 1 + ((Sha.zeros m).map B8).length)).toArray, ?_, ?_, ?_, .inl rfl⟩
      · by_cases hm : m = 0
        · subst hm
          simp only [Nat.mul_one, Sha.zeros, List.replicate_zero, List.map_nil] at hst
          have hw0 : IntKind.i64.wrap 0 = 0 := by decide
          simp [Builtin.append_, run_underlying ei23.t, run_underlying Try.underlying3, sizeOf, typeInfo, hi, asInt, asIntOf, hw0, hroom, hnc, Addr.add_lit, hz1, Sha.zeros, hst]
        · simp only [Nat.mul_one] at hst
          have ez : Builtin.zeroCells #[Value.int .u8 0] m = ((Sha.zeros m).map B8).toArray := zeroCells_eq m
          simp [Builtin.append_, run_underlying ei23.t, run_underlying Try.underlying3, sizeOf, typeInfo, zeroValue, hz0, hi, asInt, asIntOf, hwr, n1, n2, hm, hroom, Addr.add_lit, hz1, Value.cells, ez, hst]
      · refine ⟨hlen.trans (by rw [hOl]), .inr ⟨g, cap, _, by rw [hOl], Nat.zero_le _, setRow_heap w g cur _ 5 _ hg, by rw [hOl]; exact hroom, hcm, ?_, ?_⟩⟩
        · simp only [List.size_toArray, List.length_append, List.length_take, List.length_drop, Array.length_toList, List.length_map] at hfit ⊢
          simp [Sha.zeros] at hfit ⊢
          omega
        · have : l.length * 1 = (l.map B8).length := by simp
          rw [htake, List.map_append]
          simp only [List.append_assoc]
          rw [← List.append_assoc]
          exact List.take_left' (by simp)
      · exact ⟨rfl, rfl, rfl, by simp, fun k _ hk => setRow_other w g k _ (fun e => hk (by rw [e]; rfl))⟩
    · have hm : m ≠ 0 := by omega
      have hfo := run_firstCells_some (P := Try.prog) w.drew i.size l.length ⟨g, 0, none⟩ l.length cap (l.map B8) (by rw [hz1]; simp) (by simpa using hown.cells (g := g) rfl)
      rw [hz1] at hfo
      have h48 : ¬ (281474976710656 < Builtin.nextslicecap (l.length + m) cap * i.bytes) := by
        have := growslice_fits (need := l.length + m) (old := cap) (bytes := i.bytes) (by omega) (by rw [hz2]; omega)
        omega
      have h63' : ¬ ((9223372036854775807 : Int) < (l.length : Int) + (m : Int)) := by omega
      refine ⟨.slice (some ⟨w.heap.size, 0, none⟩) (l.length + m) (grownCap w (l.length + m) cap 5), w.drew.alloc (.cells ((l.map B8).toArray ++ row8 (Sha.zeros m) ++ Builtin.zeroCells (Value.int .u8 0).cells (grownCap w (l.length + m) cap 5 - (l.length + m))) 5), ?_, ?_, ?_, .inr fun g' hv => by injection hv with e1; subst e1; exact Nat.le_refl _⟩
      · simp [Builtin.append_, run_underlying ei23.t, run_underlying Try.underlying3, sizeOf, typeInfo, zeroValue, hi, hz0, asInt, asIntOf, hwr, n1, n2, hm, hroom, h48, h63', Question.forced, hfo, newRow, grownCap, hz1, zeroCells_eq]
      · refine ⟨hlen.trans (by rw [hOl]), .inr ⟨w.heap.size, _, _, by rw [hOl], Nat.zero_le _, heap_alloc_new w.drew _, by rw [hOl]; exact grownCap_ge w _ cap 5, grownCap_le_maxLen w _ cap 5 (by unfold maxLen; omega), ?_, ?_⟩⟩
        · have := grownCap_ge w (l.length + m) cap 5
          simp only [Array.size_append, size_zeroCells, row8_size, Sha.zeros, List.length_replicate, Value.cells, List.size_toArray, List.length_map]
          simp
          omega
        · have e : (Sha.zeros m).length = m := by simp [Sha.zeros]
          simp only [row8, Array.toList_append, List.map_append]
          exact List.take_left' (by simp [e])
      · exact ⟨rfl, rfl, rfl, by simp, fun k hk _ => heap_alloc_old w.drew _ hk⟩
theorem wpList_append_zeros {ops : Array Oper} {rest : List Oper} {o : Oper} {a : Act} {w : World} {Q : Exit → Act → World → Prop} (hgd : o.guard = none)
    (s x : Operand) (ho : o.op = .call { callee := .builtin .append, args := #[s, x], argTypes := #[23, 3] }) (v : Value) (hs : a.eval s = v) {l : List UInt8} (hown : OwnB w v l)
    (m : Nat) (hx : a.eval x = .int .i64 (m : Int)) (h63 : l.length + m ≤ 4294967296)
    (hK : ∀ v' w', OwnB w' v' (l ++ Sha.zeros m) → Grew w w' v → (v'.ownBlock = v.ownBlock ∨ ∀ g, v'.ownBlock = some g → w.heap.size ≤ g) → wpList Try.prog ops Q rest (a.put o.dst v') w') : wpList Try.prog ops Q (o :: rest) a w := by
  refine wpList_plain hgd fun K hKK => ?_
  obtain ⟨v', w', hr, h2, h3, h4⟩ := run_append_zeros o.type w v l hown m h63
  unfold Oper.wp execOp
  simp only [ho, resolve, invoke, builtin, Sem.run_bind, Sem.run_pure, Result.andThen_ok, List.map_toArray, List.map_cons, List.map_nil, hs, hx, hr]
  exact hKK _ _ (hK v' w' h2 h3 h4)
end Go.Proofs.Ytapojpjmeadabaa

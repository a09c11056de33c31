/- Numf, Word, Digt, Regf, Regn, Carry, Regg: several texts in one. -/
import Derived.Test.YtapojpjmeadabaaZMac3
import Derived.Laws.CopyRow
import Derived.Test.YtapojpjmeadabaaZRegw
import Derived.Laws.Externs
section
/- Numbers of 32 bytes, and their four words, in plain Lean. -/
namespace Go.Proofs.Ytapojpjmeadabaa
open Go.RowKit
set_option linter.unusedVariables false
set_option linter.unusedSimpArgs false

theorem foldl_spell (l : List UInt8) : ∀ a : Nat, l.foldl (fun x b => x * 256 + b.toNat) a = a * 256 ^ l.length + spell l := by
  unfold spell
  induction l with
  | nil => intro a; simp
  | cons x l ih =>
    intro a
    simp only [List.foldl_cons, List.length_cons]
    rw [ih, ih (0 * 256 + x.toNat), Nat.pow_succ, Nat.add_mul, Nat.mul_assoc, Nat.mul_comm 256, Nat.zero_mul, Nat.zero_add, Nat.add_assoc]
theorem spell_app (a b : List UInt8) : spell (a ++ b) = spell a * 256 ^ b.length + spell b := by
  conv => lhs; unfold spell
  rw [List.foldl_append, foldl_spell b]
  rfl
theorem spell_cons (x : UInt8) (l : List UInt8) : spell (x :: l) = x.toNat * 256 ^ l.length + spell l := by
  have := spell_app [x] l
  simpa [spell] using this
theorem be_congr (n m : Nat) : ∀ k, n % 256 ^ k = m % 256 ^ k → be n k = be m k
  | 0, _ => rfl
  | k + 1, h => by
    have h1 : n / 256 ^ k % 256 = m / 256 ^ k % 256 := by
      rw [← Nat.mod_mul_right_div_self, ← Nat.mod_mul_right_div_self m, ← Nat.pow_succ, h]
    have h2 : n % 256 ^ k = m % 256 ^ k := by
      have e1 := Nat.mod_mod_of_dvd n (Nat.pow_dvd_pow 256 (Nat.le_succ k))
      have e2 := Nat.mod_mod_of_dvd m (Nat.pow_dvd_pow 256 (Nat.le_succ k))
      rw [← e1, ← e2]
      show n % 256 ^ (k + 1) % _ = m % 256 ^ (k + 1) % _
      rw [h]
    unfold be
    rw [be_congr n m k h2]
    congr 1
    apply UInt8.toNat_inj.1
    simp only [UInt8.toNat_ofNat']
    exact h1
theorem spell_be (n : Nat) : ∀ k, spell (be n k) = n % 256 ^ k
  | 0 => by simp [be, spell, Nat.mod_one]
  | k + 1 => by
    unfold be
    rw [spell_cons, spell_be n k, be_length, Nat.mod_pow_succ, UInt8.toNat_ofNat', Nat.mul_comm, Nat.add_comm]
theorem be_spell : ∀ l : List UInt8, be (spell l) l.length = l
  | [] => rfl
  | x :: l => by
    have h := be_spell l
    have hl := spell_lt l
    have e : be (spell (x :: l)) l.length = l := by
      rw [be_congr _ (spell l) _ (by rw [spell_cons, Nat.mul_add_mod_of_lt hl, Nat.mod_eq_of_lt hl]), h]
    show be (spell (x :: l)) (l.length + 1) = _
    unfold be
    rw [e, spell_cons, Nat.add_comm, Nat.add_mul_div_right _ _ (Nat.pow_pos (by omega)), Nat.div_eq_of_lt hl, Nat.zero_add]
    congr 1
    apply UInt8.toNat_inj.1
    simp
theorem be_app (n m : Nat) : ∀ j, be n (j + m) = be (n / 256 ^ m) j ++ be n m
  | 0 => by simp [be]
  | j + 1 => by
    rw [show j + 1 + m = (j + m) + 1 by omega]
    conv => lhs; unfold be
    rw [be_app n m j]
    conv => rhs; arg 1; unfold be
    rw [Nat.div_div_eq_div_mul, ← Nat.pow_add, Nat.add_comm m j]
    rfl
theorem spell_inj {a b : List UInt8} (hl : a.length = b.length) (h : spell a = spell b) : a = b := by
  rw [← be_spell a, ← be_spell b, h, hl]

/-- The word of a number. -/
def wd (n i : Nat) : Nat := n / 2 ^ (64 * i) % 18446744073709551616
theorem wd_lt (n i : Nat) : wd n i < 18446744073709551616 := Nat.mod_lt _ (by omega)
/-- What words come to. -/
def val (f : Nat → Nat) : Nat → Nat
  | 0 => 0
  | k + 1 => val f k + f k * 2 ^ (64 * k)
theorem val_congr {f g : Nat → Nat} : ∀ k, (∀ i, i < k → f i = g i) → val f k = val g k
  | 0, _ => rfl
  | k + 1, h => by simp only [val]; rw [val_congr k (fun i hi => h i (by omega)), h k (by omega)]
theorem val_lt {f : Nat → Nat} : ∀ k, (∀ i, i < k → f i < 18446744073709551616) → val f k < 2 ^ (64 * k)
  | 0, _ => by simp [val]
  | k + 1, h => by
    have h1 := val_lt k (fun i hi => h i (by omega))
    have h2 := h k (by omega)
    simp only [val]
    rw [show 2 ^ (64 * (k + 1)) = 18446744073709551616 * 2 ^ (64 * k) by rw [Nat.mul_add, Nat.pow_add, Nat.mul_comm]]
    have h3 : f k * 2 ^ (64 * k) ≤ 18446744073709551615 * 2 ^ (64 * k) := Nat.mul_le_mul_right _ (by omega)
    omega
theorem val_wd (n : Nat) : ∀ k, val (wd n) k = n % 2 ^ (64 * k)
  | 0 => by simp [val, Nat.mod_one]
  | k + 1 => by
    simp only [val, val_wd n k, wd]
    rw [show 2 ^ (64 * (k + 1)) = 2 ^ (64 * k) * 18446744073709551616 by rw [Nat.mul_add, Nat.pow_add], Nat.mod_mul, Nat.mul_comm (n / _ % _)]
theorem spell_wd (l : List UInt8) (hl : l.length = 32) (i : Nat) (hi : i < 4) : spell ((l.take (32 - 8 * i)).drop (24 - 8 * i)) = wd (spell l) i := by
  have e : l = l.take (24 - 8 * i) ++ ((l.take (32 - 8 * i)).drop (24 - 8 * i) ++ l.drop (32 - 8 * i)) := by
    have h1 : l.take (24 - 8 * i) = (l.take (32 - 8 * i)).take (24 - 8 * i) := by rw [List.take_take, Nat.min_eq_left (by omega)]
    rw [← List.append_assoc, h1, List.take_append_drop, List.take_append_drop]
  have e2 := congrArg spell e
  rw [spell_app, spell_app] at e2
  have hs := spell_lt ((l.take (32 - 8 * i)).drop (24 - 8 * i))
  have hc := spell_lt (l.drop (32 - 8 * i))
  simp only [List.length_append, List.length_drop, List.length_take, hl] at e2 hs hc
  generalize spell (l.take (24 - 8 * i)) = A at *
  generalize spell ((l.take (32 - 8 * i)).drop (24 - 8 * i)) = S at *
  generalize spell (l.drop (32 - 8 * i)) = C at *
  clear e
  unfold wd
  rw [e2]
  have : i = 0 ∨ i = 1 ∨ i = 2 ∨ i = 3 := by omega
  rcases this with rfl | rfl | rfl | rfl <;> simp at * <;> omega
/-- A sum, a difference. -/
def addD (a b : List UInt8) : List UInt8 := be (spell a + spell b) 32
def subD (a b : List UInt8) : List UInt8 := be (spell a + 256 ^ 32 - spell b) 32
theorem addD_length (a b : List UInt8) : (addD a b).length = 32 := be_length _ _
theorem subD_length (a b : List UInt8) : (subD a b).length = 32 := be_length _ _
theorem addD_comm (a b : List UInt8) : addD a b = addD b a := by unfold addD; rw [Nat.add_comm]
theorem spell_addD (a b : List UInt8) : spell (addD a b) = (spell a + spell b) % 256 ^ 32 := spell_be _ _
theorem addD_assoc (a b c : List UInt8) : addD (addD a b) c = addD a (addD b c) := by
  unfold addD
  apply be_congr
  rw [spell_be, spell_be, Nat.mod_add_mod, Nat.add_mod_mod, Nat.add_assoc]
theorem subD_addD (a b : List UInt8) (ha : a.length = 32) (hb : b.length = 32) : subD (addD a b) b = a := by
  have h1 := spell_lt a
  have h2 := spell_lt b
  rw [ha] at h1
  rw [hb] at h2
  have h3 := spell_addD a b
  have h4 : be (spell a) 32 = a := ha ▸ be_spell a
  unfold subD
  rw [h3]
  conv => rhs; rw [← h4]
  apply be_congr
  generalize spell a = x at *
  generalize spell b = y at *
  simp only [show (256 : Nat) ^ 32 = 115792089237316195423570985008687907853269984665640564039457584007913129639936 from rfl] at *
  omega
theorem addD_zero (a : List UInt8) (ha : a.length = 32) : addD a (Sha.zeros 32) = a := by
  have h4 : be (spell a) 32 = a := ha ▸ be_spell a
  have h5 : spell (Sha.zeros 32) = 0 := by decide +kernel
  unfold addD
  rw [h5, Nat.add_zero, h4]
end Go.Proofs.Ytapojpjmeadabaa
end

section
/- sum.words, sum.digest. -/
namespace Go.Proofs.Ytapojpjmeadabaa
open Go.RowKit
set_option linter.unusedVariables false
set_option linter.unusedSimpArgs false
attribute [local go_sem] lt_ext cell?_ext frozen?_ext shape?_ext

abbrev W64 (n : Nat) : Value := .int .u64 (n : Int)
def row64 (f : Nat → Nat) : Array Value := #[W64 (f 0), W64 (f 1), W64 (f 2), W64 (f 3)]
abbrev Wd4 (f : Nat → Nat) : Value := .agg (row64 f)
def z64 : Nat → Nat := fun _ => 0
theorem below4 (k : Nat) (hk : k < 4) : k = 0 ∨ k = 1 ∨ k = 2 ∨ k = 3 := by omega
theorem row64_size (f : Nat → Nat) : (row64 f).size = 4 := rfl
theorem row64_get (f : Nat → Nat) (i : Nat) (hi : i < 4) : (row64 f)[i]? = some (W64 (f i)) := by
  rcases below4 i hi with h|h|h|h <;> subst h <;> rfl
def setW (f : Nat → Nat) (k x : Nat) : Nat → Nat := fun i => if i = k then x else f i
theorem row64_set (f : Nat → Nat) (k x : Nat) (hk : k < 4) : (row64 f).setIfInBounds k (W64 x) = row64 (setW f k x) := by
  rcases below4 k hk with h|h|h|h <;> subst h <;> rfl
theorem row64_congr {f g : Nat → Nat} (h : ∀ i, i < 4 → f i = g i) : row64 f = row64 g := by
  unfold row64
  rw [h 0 (by omega), h 1 (by omega), h 2 (by omega), h 3 (by omega)]
theorem zero121 : (∀ w, (zeroValue 121).run Try.prog w = .ok (Wd4 z64) w) ∧ (Try.prog.info? 121).map (·.size) = some 4 := zero_of_info (by kernel_rfl)
theorem size121 (f : Nat → Nat) : (Try.prog.info? 121).map (·.size) = some (row64 f).size := zero121.2
theorem row64_one (f : Nat → Nat) : (row64 f).all (·.oneCell') = true := by simp [row64, Value.oneCell']
/-- A block of four words. -/
abbrev Blw (w : World) (g : Nat) (f : Nat → Nat) : Prop := w.heap[g]? = some (.cells (row64 f) 121 (0, 0))
theorem Blw.lt {w : World} {g : Nat} {f : Nat → Nat} (h : Blw w g f) : g < w.heap.size := (Array.getElem?_eq_some_iff.1 h).1
theorem Blw.cell {w : World} {g : Nat} {f : Nat → Nat} (h : Blw w g f) (i : Nat) (hi : i < 4) : w.cell? ⟨g, i, none⟩ = some (W64 (f i)) := by
  rw [cell_of_row _ _ _ _ _ _ h]; exact row64_get f i hi
theorem Blw.frozen {w : World} {g : Nat} {f : Nat → Nat} (h : Blw w g f) (i : Nat) : w.frozen? ⟨g, i, none⟩ = false := frozen_of_row _ _ _ _ _ h
theorem Blw.ext {w w' : World} {g : Nat} {f : Nat → Nat} (h : Blw w g f) (hx : Ext w w') : Blw w' g f := (hx.block h.lt).trans h
theorem Blw.set {w : World} {g : Nat} {f : Nat → Nat} (h : Blw w g f) (i x : Nat) (hi : i < 4) : Blw (w.setCell ⟨g, i, none⟩ (W64 x)) g (setW f i x) := by
  have h1 := heap_setCell_same _ _ i _ _ (W64 x) h
  rw [row64_set f i x hi] at h1
  exact h1
theorem Blw.congr {w : World} {g : Nat} {f f' : Nat → Nat} (h : Blw w g f) (he : ∀ i, i < 4 → f i = f' i) : Blw w g f' := by
  unfold Blw at h ⊢
  rw [← row64_congr he]; exact h
theorem other_cell {w : World} {g k i : Nat} {v : Value} {o : Option Obj} (h : w.heap[g]? = o) (hk : g ≠ k) : (w.setCell ⟨k, i, none⟩ v).heap[g]? = o :=
  (Below.heap_setCell w ⟨k, i, none⟩ v g (fun e => hk e)).trans h
theorem wpl_load121 {ops : Array Oper} {rest : List Oper} {o : Oper} {a : Act} {w : World} {Q : Exit → Act → World → Prop} (hgd : o.guard = none) (x : Operand) (ho : o.op = .load 121 x)
    (g : Nat) (hx : a.eval x = .pointer (some ⟨g, 0, none⟩)) (f : Nat → Nat) (hg : Blw w g f)
    (h : wpList Try.prog ops Q rest (a.put o.dst (Wd4 f)) w) : wpList Try.prog ops Q (o :: rest) a w :=
  wpList_load_row hgd 121 x ho g hx 121 _ (0, 0) _ hg Try.underlying121 rfl (size121 f) h
theorem wpl_store121 {ops : Array Oper} {rest : List Oper} {o : Oper} {a : Act} {w : World} {Q : Exit → Act → World → Prop} (hgd : o.guard = none) (x y : Operand) (ho : o.op = .store 121 x y)
    (g : Nat) (f f0 : Nat → Nat) (hx : a.eval x = .pointer (some ⟨g, 0, none⟩)) (hy : a.eval y = Wd4 f) (hg : Blw w g f0)
    (h : ∀ w', Blw w' g f → Upd w w' g → wpList Try.prog ops Q rest (a.put o.dst undef) w') : wpList Try.prog ops Q (o :: rest) a w :=
  wpList_store_row hgd 121 x y ho g _ hx hy 121 _ hg (size121 f) rfl (row64_one f)
    (h _ (setRow_heap _ _ _ _ _ _ hg) ⟨rfl, rfl, rfl, by simp, fun k _ hk => setRow_other w g k _ (fun e => hk (by rw [e]))⟩)
theorem ret121 {fn : Func} {p : Tmp} {R : Ending → World → Prop} {a : Act} {w : World} (hr : fn.results = #[.cell p 121]) (g : Nat) (f : Nat → Nat)
    (hp : a.tmps.getD p undef = .pointer (some ⟨g, 0, none⟩)) (hg : Blw w g f) (hd : a.defers = []) (hR : R (.returned (Wd4 f)) w) : bodyPost Try.prog fn R .ret a w :=
  bodyPost_ret (results_cell_row hr a.tmps w g 121 _ (0, 0) _ hp hg Try.underlying121 rfl (size121 f)) hd hR

/-- The first k of the words. -/
def wdk (n k : Nat) : Nat → Nat := fun i => if i < k then wd n i else 0
theorem wdk_next (n k : Nat) : ∀ i, setW (wdk n k) k (wd n k) i = wdk n (k + 1) i := by
  intro i
  unfold setW wdk
  by_cases h : i = k
  · subst h; simp
  · rw [if_neg h]
    by_cases h2 : i < k
    · rw [if_pos h2, if_pos (by omega)]
    · rw [if_neg h2, if_neg (by omega)]
theorem three_new (w : World) (a b c : Obj) : ((((w.alloc a).alloc b).alloc c).heap[w.heap.size]? = some a ∧ (((w.alloc a).alloc b).alloc c).heap[w.heap.size + 1]? = some b ∧ (((w.alloc a).alloc b).alloc c).heap[w.heap.size + 2]? = some c) ∧ Ext w (((w.alloc a).alloc b).alloc c) ∧ (((w.alloc a).alloc b).alloc c).heap.size = w.heap.size + 3 := by
  have h1 := heap_alloc_last w a
  have h2 := heap_alloc_last (w.alloc a) b
  have h3 := heap_alloc_last ((w.alloc a).alloc b) c
  simp only [World.size_alloc] at h2 h3
  refine ⟨⟨?_, ?_, h3⟩, (((Ext.refl w).alloc a).alloc b).alloc c, by simp⟩
  · exact ((((Ext.refl (w.alloc a)).alloc b).alloc c).block (by simp)).trans h1
  · exact (((Ext.refl ((w.alloc a).alloc b)).alloc c).block (by simp)).trans h2
set_option maxRecDepth 100000 in
set_option maxHeartbeats 1000000 in
theorem words_of (D : List UInt8) (hD : D.length = 32) (w : World) :
    Calls Try.prog 99 #[Dig D] w fun e w' => e = .returned (Wd4 (wd (spell D))) ∧ Ext w w' := by
  have HD := Lib.hid hD
  clear hD
  obtain ⟨N, hN⟩ : ∃ N, spell D = N := ⟨_, rfl⟩
  rw [hN]
  have HN := Lib.hid hN
  clear hN
  go_enter Try.func99, Try.ntmps99
  go_wp2_with (refine wpl_alloc_agg rfl 121 rfl _ zero121.1 ?_)
  obtain ⟨⟨h0, h1, h2⟩, hx, hs⟩ := three_new w (.cells (row8 D) 27) (.cells (row64 z64) 121) (.cells (row64 z64) 121)
  generalize ((w.alloc (.cells (row8 D) 27)).alloc (.cells (row64 z64) 121)).alloc (.cells (row64 z64) 121) = w0 at *
  have HA := Lib.hid (show Blk w0 w.heap.size 27 D from h0)
  have HB := Lib.hid (show Blw w0 (w.heap.size + 1) z64 from h1)
  have HC := Lib.hid (show Blw w0 (w.heap.size + 2) z64 from h2)
  have HX := Lib.hid hx
  clear h0 h1 h2 hx hs
  go_loopw [5, 4] (fun i q wr => ∃ k : Nat, k ≤ 4 ∧ i = .int .i64 k ∧ Blk wr w.heap.size 27 D ∧ Blw wr (w.heap.size + 1) z64 ∧ Blw wr (w.heap.size + 2) (wdk N k) ∧ Ext w wr) (fun i _ _ => 4 - (intOf i).toNat)
  case atStart => exact ⟨0, by omega, rfl, HA.out, HB.out, HC.out, HX.out⟩
  case round =>
    obtain ⟨k, hk, rfl, hA, hB, hC, hx⟩ := hrel
    clear HA HB HC HX
    have HA := Lib.hid hA
    have HB := Lib.hid hB
    have HC := Lib.hid hC
    have HX := Lib.hid hx
    have hl1 := hC.lt
    have hf := hC.frozen k
    clear hA hB hC hx
    by_cases hlt : k < 4
    · have HS : Hid (spell ((D.take (32 - 8 * k)).drop (24 - 8 * k)) = wd N k) := Lib.hid (by rw [← HN.out]; exact spell_wd D HD.out k hlt)
      rcases below4 k hlt with rfl|rfl|rfl|rfl
      · have hc := HC.out.cell 0 (by omega)
        have hold : wdk N 0 0 = 0 := by simp [wdk]
        rw [hold] at hc
        clear hold
        have hbs : Bs wr (.slice (some ⟨w.heap.size, 24, none⟩) 8 (32 - 24)) ((D.take (32 - 8 * 0)).drop (24 - 8 * 0)) := by
          have h := HA.out.bs 24 8 (32 - 24) (by have := HD.out; omega) (by decide) (by decide)
          rw [show (D.drop 24).take 8 = (D.take (32 - 8 * 0)).drop (24 - 8 * 0) by rw [List.drop_take]] at h
          exact h
        have HBS := Lib.hid hbs
        clear hbs
        have hx32 : (wd N 0) < 18446744073709551616 := wd_lt _ _
        have HW := Lib.hid hx32
        clear hx32
        obtain ⟨x, hx⟩ : ∃ x, wd N 0 = x := ⟨_, rfl⟩
        rw [hx] at HS HW
        have HWX := Lib.hid hx
        clear hx
        go_wp2_with (go_at_call 105; go_must (refine (cget_any _ _ (by have := HD.out; simp; omega) _ HBS.out).mono ?_; rintro e w1 ⟨rfl, rfl⟩; rw [HS.out]))
        go_roundw
        case rel =>
          refine ⟨0 + 1, by omega, by go_num, (other_cell HA.out (by omega)), (other_cell HB.out (by omega)), ?_, Ext.setCell_new HX.out trivial (by show w.heap.size ≤ w.heap.size + 2; omega)⟩
          have := (HC.out.set 0 x (by omega)).congr (fun i _ => (congrArg (fun z => setW (wdk N 0) 0 z i) HWX.out.symm).trans (wdk_next N 0 i))
          exact this
        case measure => simp [intOf]
      · have hc := HC.out.cell 1 (by omega)
        have hold : wdk N 1 1 = 0 := by simp [wdk]
        rw [hold] at hc
        clear hold
        have hbs : Bs wr (.slice (some ⟨w.heap.size, 16, none⟩) 8 (32 - 16)) ((D.take (32 - 8 * 1)).drop (24 - 8 * 1)) := by
          have h := HA.out.bs 16 8 (32 - 16) (by have := HD.out; omega) (by decide) (by decide)
          rw [show (D.drop 16).take 8 = (D.take (32 - 8 * 1)).drop (24 - 8 * 1) by rw [List.drop_take]] at h
          exact h
        have HBS := Lib.hid hbs
        clear hbs
        have hx32 : (wd N 1) < 18446744073709551616 := wd_lt _ _
        have HW := Lib.hid hx32
        clear hx32
        obtain ⟨x, hx⟩ : ∃ x, wd N 1 = x := ⟨_, rfl⟩
        rw [hx] at HS HW
        have HWX := Lib.hid hx
        clear hx
        go_wp2_with (go_at_call 105; go_must (refine (cget_any _ _ (by have := HD.out; simp; omega) _ HBS.out).mono ?_; rintro e w1 ⟨rfl, rfl⟩; rw [HS.out]))
        go_roundw
        case rel =>
          refine ⟨1 + 1, by omega, by go_num, (other_cell HA.out (by omega)), (other_cell HB.out (by omega)), ?_, Ext.setCell_new HX.out trivial (by show w.heap.size ≤ w.heap.size + 2; omega)⟩
          have := (HC.out.set 1 x (by omega)).congr (fun i _ => (congrArg (fun z => setW (wdk N 1) 1 z i) HWX.out.symm).trans (wdk_next N 1 i))
          exact this
        case measure => simp [intOf]
      · have hc := HC.out.cell 2 (by omega)
        have hold : wdk N 2 2 = 0 := by simp [wdk]
        rw [hold] at hc
        clear hold
        have hbs : Bs wr (.slice (some ⟨w.heap.size, 8, none⟩) 8 (32 - 8)) ((D.take (32 - 8 * 2)).drop (24 - 8 * 2)) := by
          have h := HA.out.bs 8 8 (32 - 8) (by have := HD.out; omega) (by decide) (by decide)
          rw [show (D.drop 8).take 8 = (D.take (32 - 8 * 2)).drop (24 - 8 * 2) by rw [List.drop_take]] at h
          exact h
        have HBS := Lib.hid hbs
        clear hbs
        have hx32 : (wd N 2) < 18446744073709551616 := wd_lt _ _
        have HW := Lib.hid hx32
        clear hx32
        obtain ⟨x, hx⟩ : ∃ x, wd N 2 = x := ⟨_, rfl⟩
        rw [hx] at HS HW
        have HWX := Lib.hid hx
        clear hx
        go_wp2_with (go_at_call 105; go_must (refine (cget_any _ _ (by have := HD.out; simp; omega) _ HBS.out).mono ?_; rintro e w1 ⟨rfl, rfl⟩; rw [HS.out]))
        go_roundw
        case rel =>
          refine ⟨2 + 1, by omega, by go_num, (other_cell HA.out (by omega)), (other_cell HB.out (by omega)), ?_, Ext.setCell_new HX.out trivial (by show w.heap.size ≤ w.heap.size + 2; omega)⟩
          have := (HC.out.set 2 x (by omega)).congr (fun i _ => (congrArg (fun z => setW (wdk N 2) 2 z i) HWX.out.symm).trans (wdk_next N 2 i))
          exact this
        case measure => simp [intOf]
      · have hc := HC.out.cell 3 (by omega)
        have hold : wdk N 3 3 = 0 := by simp [wdk]
        rw [hold] at hc
        clear hold
        have hbs : Bs wr (.slice (some ⟨w.heap.size, 0, none⟩) 8 (32 - 0)) ((D.take (32 - 8 * 3)).drop (24 - 8 * 3)) := by
          have h := HA.out.bs 0 8 (32 - 0) (by have := HD.out; omega) (by decide) (by decide)
          rw [show (D.drop 0).take 8 = (D.take (32 - 8 * 3)).drop (24 - 8 * 3) by rw [List.drop_take]] at h
          exact h
        have HBS := Lib.hid hbs
        clear hbs
        have hx32 : (wd N 3) < 18446744073709551616 := wd_lt _ _
        have HW := Lib.hid hx32
        clear hx32
        obtain ⟨x, hx⟩ : ∃ x, wd N 3 = x := ⟨_, rfl⟩
        rw [hx] at HS HW
        have HWX := Lib.hid hx
        clear hx
        go_wp2_with (go_at_call 105; go_must (refine (cget_any _ _ (by have := HD.out; simp; omega) _ HBS.out).mono ?_; rintro e w1 ⟨rfl, rfl⟩; rw [HS.out]))
        go_roundw
        case rel =>
          refine ⟨3 + 1, by omega, by go_num, (other_cell HA.out (by omega)), (other_cell HB.out (by omega)), ?_, Ext.setCell_new HX.out trivial (by show w.heap.size ≤ w.heap.size + 2; omega)⟩
          have := (HC.out.set 3 x (by omega)).congr (fun i _ => (congrArg (fun z => setW (wdk N 3) 3 z i) HWX.out.symm).trans (wdk_next N 3 i))
          exact this
        case measure => simp [intOf]
    · obtain rfl : k = 4 := by omega
      have e : Blw wr (w.heap.size + 2) (wd N) := HC.out.congr (fun i hi => by unfold wdk; rw [if_pos hi])
      have HE := Lib.hid e
      clear e HC hf
      go_wp2_with (first | (refine wpl_load121 rfl _ rfl (w.heap.size + 2) rfl (wd N) HE.out ?_) | (refine wpl_store121 rfl _ _ rfl (w.heap.size + 1) (wd N) z64 rfl rfl HB.out ?_; intro w8 h8 hu8; have H8 := Lib.hid h8; have HX8 := Lib.hid (HX.out.upd_new hu8 (Nat.le_succ _)); clear h8 hu8))
      exact ret121 rfl (w.heap.size + 1) (wd N) rfl H8.out rfl ⟨rfl, HX8.out⟩
end Go.Proofs.Ytapojpjmeadabaa
end

section
/- sum.digest. -/
namespace Go.Proofs.Ytapojpjmeadabaa
open Go.RowKit
set_option linter.unusedVariables false
set_option linter.unusedSimpArgs false
attribute [local go_sem] lt_ext cell?_ext frozen?_ext shape?_ext

theorem be_val (f : Nat → Nat) (k : Nat) (hf : ∀ i, i < k → f i < 18446744073709551616) : be (val f (k + 1)) (8 * (k + 1)) = be (f k) 8 ++ be (val f k) (8 * k) := by
  have hv := val_lt k hf
  have e : (256 : Nat) ^ (8 * k) = 2 ^ (64 * k) := by
    rw [show (256 : Nat) = 2 ^ 8 from rfl, ← Nat.pow_mul]
    congr 1
    omega
  rw [show 8 * (k + 1) = 8 + 8 * k by omega, be_app, e]
  simp only [val]
  rw [Nat.add_mul_div_right _ _ (Nat.pow_pos (by omega)), Nat.div_eq_of_lt hv, Nat.zero_add]
  congr 1
  apply be_congr
  rw [e, Nat.add_mul_mod_self_right]
/-- What digest has after k rounds. -/
def dgk (f : Nat → Nat) (k : Nat) : List UInt8 := Sha.zeros (32 - 8 * k) ++ be (val f k) (8 * k)
theorem dgk_length (f : Nat → Nat) (k : Nat) (hk : k ≤ 4) : (dgk f k).length = 32 := by simp [dgk, Sha.zeros, be_length]; omega
theorem dgk_next (f : Nat → Nat) (hf : ∀ i, i < 4 → f i < 18446744073709551616) (k : Nat) (hk : k < 4) :
    (dgk f k).take (24 - 8 * k) ++ be (f k) 8 ++ (dgk f k).drop (24 - 8 * k + 8) = dgk f (k + 1) := by
  unfold dgk
  rw [be_val f k (fun i hi => hf i (by omega)), List.take_append_of_le_length (by simp [Sha.zeros]; omega), List.drop_append_of_le_length (by simp [Sha.zeros]; omega)]
  have e1 : (Sha.zeros (32 - 8 * k)).take (24 - 8 * k) = Sha.zeros (32 - 8 * (k + 1)) := by
    simp only [Sha.zeros, List.take_replicate]; congr 1; omega
  have e2 : (Sha.zeros (32 - 8 * k)).drop (24 - 8 * k + 8) = [] := by
    apply List.drop_eq_nil_of_le
    simp [Sha.zeros]; omega
  rw [e1, e2, List.nil_append, List.append_assoc]
/-- copy into a block of bytes. -/
theorem wpl_copy23 {ops : Array Oper} {rest : List Oper} {o : Oper} {a : Act} {w : World} {Q : Exit → Act → World → Prop} (hgd : o.guard = none)
    (x y : Operand) (ho : o.op = .call { callee := .builtin .copy, args := #[x, y], argTypes := #[23, 23] }) (g k n c : Nat) (hx : a.eval x = .slice (some ⟨g, k, none⟩) n c)
    (v : Value) (hy : a.eval y = v) (T : TypeId) (l s : List UInt8) (hB : Bs w v s) (hl : Blk w g T l) (hs0 : 0 < s.length) (hsn : s.length ≤ n) (hfit : k + s.length ≤ l.length)
    (h : ∀ w', Blk w' g T (l.take k ++ s ++ l.drop (k + s.length)) → Upd w w' g → wpList Try.prog ops Q rest (a.put o.dst (.int .i64 (s.length : Int))) w') : wpList Try.prog ops Q (o :: rest) a w := by
  obtain ⟨b, ob, cap, rfl, _, _, _, hcell⟩ := hB.pos hs0
  obtain ⟨i, hi, hz0, hz1, hz2⟩ := info_parts ei23.info
  refine wpList_plain hgd fun K hKK => ?_
  have hr := run_copy_row Try.prog w 23 23 o.type 5 g k n c ⟨b, ob, none⟩ s.length cap (row8 l) T (s.map B8) ei23.t (by rw [hi]; exact congrArg some hz1) hl (by simp [Nat.min_eq_left hsn])
    (fun j u hj => by
      rw [List.getElem?_map] at hj
      obtain ⟨z, hz, rfl⟩ := Option.map_eq_some_iff.1 hj
      have hjl := (List.getElem?_eq_some_iff.1 hz).1
      have hc := hcell j hjl
      have hadd : (⟨b, ob, none⟩ : Addr).add j = ⟨b, ob + j, none⟩ := by unfold Addr.add; split <;> simp_all
      rw [hadd, hc]
      simp [List.getD, hz])
    (by rw [List.length_map, row8_size]; exact hfit) (one_bytes s)
  have e : ((row8 l).toList.take k ++ s.map B8 ++ (row8 l).toList.drop (k + (s.map B8).length)).toArray = row8 (l.take k ++ s ++ l.drop (k + s.length)) := by
    simp [row8]
  rw [e, List.length_map] at hr
  unfold Oper.wp execOp
  simp only [ho, resolve, invoke, builtin, Sem.run_bind, Sem.run_pure, Result.andThen_ok, List.map_toArray, List.map_cons, List.map_nil, hx, hy, hr]
  exact hKK _ _ (h _ (setRow_heap _ _ _ _ _ _ hl) ⟨rfl, rfl, rfl, by simp, fun k' _ hk => setRow_other w g k' _ (fun e => hk (by rw [e]))⟩)
theorem run_index121 (f : Nat → Nat) (k : Nat) (hk : k < 4) (w : World) : (Instr.index 121 (Wd4 f) (.int .i64 (k : Int))).run Try.prog w = .ok (W64 (f k)) w := by
  rcases below4 k hk with h|h|h|h <;> subst h <;> simp [go_sem, Instr.index, row64]
set_option maxRecDepth 100000 in
set_option maxHeartbeats 1000000 in
theorem digest_of (f : Nat → Nat) (hf : ∀ i, i < 4 → f i < 18446744073709551616) (w : World) :
    Calls Try.prog 101 #[Wd4 f] w fun e w' => e = .returned (Dig (be (val f 4) 32)) ∧ Ext w w' := by
  have HF := Lib.hid hf
  clear hf
  obtain ⟨E, hE⟩ : ∃ E, be (val f 4) 32 = E := ⟨_, rfl⟩
  rw [hE]
  have HE : Hid (dgk f 4 = E) := Lib.hid hE
  have HEL : Hid (E.length = 32) := Lib.hid (by rw [← hE]; exact be_length _ _)
  clear hE
  go_enter Try.func101, Try.ntmps101
  obtain ⟨⟨h0, h1, h2⟩, hx, hs⟩ := three_new w (.cells (row64 f) 121) (.cells (row8 (Sha.zeros 32)) 27) (.cells (row8 (Sha.zeros 32)) 27)
  have H0 := Lib.hid h0
  go_wp2_with (first | (refine wpl_alloc_agg rfl 27 rfl _ zero27.1 ?_) | (refine wpl_load121 rfl _ rfl w.heap.size rfl f H0.out ?_))
  clear H0
  generalize ((w.alloc (.cells (row64 f) 121)).alloc (.cells (row8 (Sha.zeros 32)) 27)).alloc (.cells (row8 (Sha.zeros 32)) 27) = w0 at *
  have HB := Lib.hid (show Blk w0 (w.heap.size + 1) 27 (Sha.zeros 32) from h1)
  have HC := Lib.hid (show Blk w0 (w.heap.size + 2) 27 (dgk f 0) from h2)
  have HX := Lib.hid hx
  clear h0 h1 h2 hx hs
  go_loopw [7, 4, 5] (fun i q r wr => ∃ k : Nat, k ≤ 4 ∧ i = .int .i64 k ∧ Blk wr (w.heap.size + 1) 27 (Sha.zeros 32) ∧ Blk wr (w.heap.size + 2) 27 (dgk f k) ∧ Ext w wr) (fun i _ _ _ => 4 - (intOf i).toNat)
  case atStart => exact ⟨0, by omega, rfl, HB.out, HC.out, HX.out⟩
  case round =>
    obtain ⟨k, hk, rfl, hB, hC, hx⟩ := hrel
    clear HB HC HX
    have HB := Lib.hid hB
    have HC := Lib.hid hC
    have HX := Lib.hid hx
    have hl1 := hC.lt
    clear hB hC hx
    by_cases hlt : k < 4
    · rcases below4 k hlt with rfl|rfl|rfl|rfl
      · have hf1 := HF.out 0 (by omega)
        have hix : ∀ w, (Instr.index 121 (Wd4 f) (.int .i64 0)).run Try.prog w = .ok (W64 (f 0)) w := run_index121 f 0 (by omega)
        obtain ⟨x, hx⟩ : ∃ x, f 0 = x := ⟨_, rfl⟩
        have HNX := Lib.hid (dgk_next f HF.out 0 (by omega))
        rw [hx] at hf1 hix HNX
        have HX1 := Lib.hid hf1
        clear hf1 hx
        go_wp2
        refine wp_region_mt 6 (by kernel_rfl) (by kernel_rfl) ?_
        try simp only [Act.put, List.setIfInBounds_toArray, List.set_cons_succ, List.set_cons_zero]
        simp only [List.take_succ_cons, List.take_zero]
        repeat (refine gq rfl rfl rfl rfl (fun K hK => ?_); go_big_quiet_op; refine hK _ ?_; clear hK K)
        refine gcp rfl rfl rfl rfl 95 #[W64 x, .int .i64 8] (fun _ => by go_simp) 16 rfl (BsR (be x 8)) BsR.ext (fun y => (cput_any x (by have := HX1.out; omega) 8 (by omega) (by omega) _).mono (fun e w' ⟨v, he, hn⟩ => ⟨v, he, hn.bs, hn.ext⟩)) ?_
        simp only [Act.put, List.setIfInBounds_toArray, List.set_cons_succ, List.set_cons_zero]
        refine gm_end_at rfl [(16, BsR (be x 8))] rfl (fun xs y hk => ?_)
        have h16 : Bs (wr.ext y) (xs 16) (be x 8) := hk 16 (by simp) _ rfl
        clear hk
        simp only [fillM, Act.put, List.setIfInBounds_toArray, List.set_cons_succ, List.set_cons_zero]
        simp only [List.drop_succ_cons, List.drop_zero]
        have hxy : Ext wr (wr.ext y) := ext_ext wr y
        generalize wr.ext y = wy at *
        have HBY := Lib.hid (HB.out.ext hxy)
        have HCY := Lib.hid (HC.out.ext hxy)
        have HXY := Lib.hid (HX.out.trans hxy)
        clear HB HC HX hxy
        refine wpl_copy23 rfl _ _ rfl (w.heap.size + 2) 24 (32 - 24) (32 - 24) rfl _ rfl 27 (dgk f 0) (be x 8) h16 HCY.out (by rw [be_length]; omega) (by rw [be_length]; omega) (by rw [be_length, dgk_length _ _ (by omega)]; omega) ?_
        intro w1 h1 hu1
        have e1 : (dgk f 0).take 24 ++ be x 8 ++ (dgk f 0).drop (24 + (be x 8).length) = dgk f (0 + 1) := HNX.out
        rw [e1] at h1
        have H1 := Lib.hid h1
        have HU1 := Lib.hid hu1
        clear h1 hu1 e1
        go_wp2
        go_roundw
        case rel => exact ⟨0 + 1, by omega, by go_num, (HU1.out.old HBY.out.lt (by omega)).trans HBY.out, H1.out, HXY.out.upd_new HU1.out (by omega)⟩
        case measure => simp [intOf]
      · have hf1 := HF.out 1 (by omega)
        have hix : ∀ w, (Instr.index 121 (Wd4 f) (.int .i64 1)).run Try.prog w = .ok (W64 (f 1)) w := run_index121 f 1 (by omega)
        obtain ⟨x, hx⟩ : ∃ x, f 1 = x := ⟨_, rfl⟩
        have HNX := Lib.hid (dgk_next f HF.out 1 (by omega))
        rw [hx] at hf1 hix HNX
        have HX1 := Lib.hid hf1
        clear hf1 hx
        go_wp2
        refine wp_region_mt 6 (by kernel_rfl) (by kernel_rfl) ?_
        try simp only [Act.put, List.setIfInBounds_toArray, List.set_cons_succ, List.set_cons_zero]
        simp only [List.take_succ_cons, List.take_zero]
        repeat (refine gq rfl rfl rfl rfl (fun K hK => ?_); go_big_quiet_op; refine hK _ ?_; clear hK K)
        refine gcp rfl rfl rfl rfl 95 #[W64 x, .int .i64 8] (fun _ => by go_simp) 16 rfl (BsR (be x 8)) BsR.ext (fun y => (cput_any x (by have := HX1.out; omega) 8 (by omega) (by omega) _).mono (fun e w' ⟨v, he, hn⟩ => ⟨v, he, hn.bs, hn.ext⟩)) ?_
        simp only [Act.put, List.setIfInBounds_toArray, List.set_cons_succ, List.set_cons_zero]
        refine gm_end_at rfl [(16, BsR (be x 8))] rfl (fun xs y hk => ?_)
        have h16 : Bs (wr.ext y) (xs 16) (be x 8) := hk 16 (by simp) _ rfl
        clear hk
        simp only [fillM, Act.put, List.setIfInBounds_toArray, List.set_cons_succ, List.set_cons_zero]
        simp only [List.drop_succ_cons, List.drop_zero]
        have hxy : Ext wr (wr.ext y) := ext_ext wr y
        generalize wr.ext y = wy at *
        have HBY := Lib.hid (HB.out.ext hxy)
        have HCY := Lib.hid (HC.out.ext hxy)
        have HXY := Lib.hid (HX.out.trans hxy)
        clear HB HC HX hxy
        refine wpl_copy23 rfl _ _ rfl (w.heap.size + 2) 16 (32 - 16) (32 - 16) rfl _ rfl 27 (dgk f 1) (be x 8) h16 HCY.out (by rw [be_length]; omega) (by rw [be_length]; omega) (by rw [be_length, dgk_length _ _ (by omega)]; omega) ?_
        intro w1 h1 hu1
        have e1 : (dgk f 1).take 16 ++ be x 8 ++ (dgk f 1).drop (16 + (be x 8).length) = dgk f (1 + 1) := HNX.out
        rw [e1] at h1
        have H1 := Lib.hid h1
        have HU1 := Lib.hid hu1
        clear h1 hu1 e1
        go_wp2
        go_roundw
        case rel => exact ⟨1 + 1, by omega, by go_num, (HU1.out.old HBY.out.lt (by omega)).trans HBY.out, H1.out, HXY.out.upd_new HU1.out (by omega)⟩
        case measure => simp [intOf]
      · have hf1 := HF.out 2 (by omega)
        have hix : ∀ w, (Instr.index 121 (Wd4 f) (.int .i64 2)).run Try.prog w = .ok (W64 (f 2)) w := run_index121 f 2 (by omega)
        obtain ⟨x, hx⟩ : ∃ x, f 2 = x := ⟨_, rfl⟩
        have HNX := Lib.hid (dgk_next f HF.out 2 (by omega))
        rw [hx] at hf1 hix HNX
        have HX1 := Lib.hid hf1
        clear hf1 hx
        go_wp2
        refine wp_region_mt 6 (by kernel_rfl) (by kernel_rfl) ?_
        try simp only [Act.put, List.setIfInBounds_toArray, List.set_cons_succ, List.set_cons_zero]
        simp only [List.take_succ_cons, List.take_zero]
        repeat (refine gq rfl rfl rfl rfl (fun K hK => ?_); go_big_quiet_op; refine hK _ ?_; clear hK K)
        refine gcp rfl rfl rfl rfl 95 #[W64 x, .int .i64 8] (fun _ => by go_simp) 16 rfl (BsR (be x 8)) BsR.ext (fun y => (cput_any x (by have := HX1.out; omega) 8 (by omega) (by omega) _).mono (fun e w' ⟨v, he, hn⟩ => ⟨v, he, hn.bs, hn.ext⟩)) ?_
        simp only [Act.put, List.setIfInBounds_toArray, List.set_cons_succ, List.set_cons_zero]
        refine gm_end_at rfl [(16, BsR (be x 8))] rfl (fun xs y hk => ?_)
        have h16 : Bs (wr.ext y) (xs 16) (be x 8) := hk 16 (by simp) _ rfl
        clear hk
        simp only [fillM, Act.put, List.setIfInBounds_toArray, List.set_cons_succ, List.set_cons_zero]
        simp only [List.drop_succ_cons, List.drop_zero]
        have hxy : Ext wr (wr.ext y) := ext_ext wr y
        generalize wr.ext y = wy at *
        have HBY := Lib.hid (HB.out.ext hxy)
        have HCY := Lib.hid (HC.out.ext hxy)
        have HXY := Lib.hid (HX.out.trans hxy)
        clear HB HC HX hxy
        refine wpl_copy23 rfl _ _ rfl (w.heap.size + 2) 8 (32 - 8) (32 - 8) rfl _ rfl 27 (dgk f 2) (be x 8) h16 HCY.out (by rw [be_length]; omega) (by rw [be_length]; omega) (by rw [be_length, dgk_length _ _ (by omega)]; omega) ?_
        intro w1 h1 hu1
        have e1 : (dgk f 2).take 8 ++ be x 8 ++ (dgk f 2).drop (8 + (be x 8).length) = dgk f (2 + 1) := HNX.out
        rw [e1] at h1
        have H1 := Lib.hid h1
        have HU1 := Lib.hid hu1
        clear h1 hu1 e1
        go_wp2
        go_roundw
        case rel => exact ⟨2 + 1, by omega, by go_num, (HU1.out.old HBY.out.lt (by omega)).trans HBY.out, H1.out, HXY.out.upd_new HU1.out (by omega)⟩
        case measure => simp [intOf]
      · have hf1 := HF.out 3 (by omega)
        have hix : ∀ w, (Instr.index 121 (Wd4 f) (.int .i64 3)).run Try.prog w = .ok (W64 (f 3)) w := run_index121 f 3 (by omega)
        obtain ⟨x, hx⟩ : ∃ x, f 3 = x := ⟨_, rfl⟩
        have HNX := Lib.hid (dgk_next f HF.out 3 (by omega))
        rw [hx] at hf1 hix HNX
        have HX1 := Lib.hid hf1
        clear hf1 hx
        go_wp2
        refine wp_region_mt 6 (by kernel_rfl) (by kernel_rfl) ?_
        try simp only [Act.put, List.setIfInBounds_toArray, List.set_cons_succ, List.set_cons_zero]
        simp only [List.take_succ_cons, List.take_zero]
        repeat (refine gq rfl rfl rfl rfl (fun K hK => ?_); go_big_quiet_op; refine hK _ ?_; clear hK K)
        refine gcp rfl rfl rfl rfl 95 #[W64 x, .int .i64 8] (fun _ => by go_simp) 16 rfl (BsR (be x 8)) BsR.ext (fun y => (cput_any x (by have := HX1.out; omega) 8 (by omega) (by omega) _).mono (fun e w' ⟨v, he, hn⟩ => ⟨v, he, hn.bs, hn.ext⟩)) ?_
        simp only [Act.put, List.setIfInBounds_toArray, List.set_cons_succ, List.set_cons_zero]
        refine gm_end_at rfl [(16, BsR (be x 8))] rfl (fun xs y hk => ?_)
        have h16 : Bs (wr.ext y) (xs 16) (be x 8) := hk 16 (by simp) _ rfl
        clear hk
        simp only [fillM, Act.put, List.setIfInBounds_toArray, List.set_cons_succ, List.set_cons_zero]
        simp only [List.drop_succ_cons, List.drop_zero]
        have hxy : Ext wr (wr.ext y) := ext_ext wr y
        generalize wr.ext y = wy at *
        have HBY := Lib.hid (HB.out.ext hxy)
        have HCY := Lib.hid (HC.out.ext hxy)
        have HXY := Lib.hid (HX.out.trans hxy)
        clear HB HC HX hxy
        refine wpl_copy23 rfl _ _ rfl (w.heap.size + 2) 0 (32 - 0) (32 - 0) rfl _ rfl 27 (dgk f 3) (be x 8) h16 HCY.out (by rw [be_length]; omega) (by rw [be_length]; omega) (by rw [be_length, dgk_length _ _ (by omega)]; omega) ?_
        intro w1 h1 hu1
        have e1 : (dgk f 3).take 0 ++ be x 8 ++ (dgk f 3).drop (0 + (be x 8).length) = dgk f (3 + 1) := HNX.out
        rw [e1] at h1
        have H1 := Lib.hid h1
        have HU1 := Lib.hid hu1
        clear h1 hu1 e1
        go_wp2
        go_roundw
        case rel => exact ⟨3 + 1, by omega, by go_num, (HU1.out.old HBY.out.lt (by omega)).trans HBY.out, H1.out, HXY.out.upd_new HU1.out (by omega)⟩
        case measure => simp [intOf]
    · obtain rfl : k = 4 := by omega
      rw [HE.out] at HC
      go_wp2_with (first | (refine wpl_load27 rfl _ rfl (w.heap.size + 2) rfl E HEL.out HC.out ?_) | (refine wpl_store27 rfl _ _ rfl (w.heap.size + 1) E (Sha.zeros 32) rfl rfl HEL.out (by simp [Sha.zeros]) HB.out ?_; intro w8 h8 hu8; have H8 := Lib.hid h8; have HX8 := Lib.hid (HX.out.upd_new hu8 (Nat.le_succ _)); clear h8 hu8))
      exact ret27 rfl (w.heap.size + 1) E HEL.out rfl H8.out rfl ⟨rfl, HX8.out⟩
end Go.Proofs.Ytapojpjmeadabaa
end

section
/- The region theorem once more, for regions that make several blocks in an order that is drawn: of certain slots it is kept that they hold pointers to new memory, each to memory of its own. -/
namespace Go.Proofs.Ytapojpjmeadabaa.FF
open Go.RowKit
set_option linter.unusedVariables false
set_option linter.unusedSimpArgs false
/-- A class of worlds, and a relation between worlds that an operation may lead along. -/
structure Cls where
  C : World → Prop
  E : World → World → Prop
  refl : ∀ w, E w w
  trans : ∀ a b c, E a b → E b c → E a c
  /-- the slots whose values are pointers to new memory -/
  F : List Nat := []
  mono : ∀ t ∈ F, ∀ a b, E a b → a.heap.size ≤ b.heap.size := by simp
/-- The worlds that have only grown out of w0. -/
def Cls.grown (w0 : World) : Cls := { C := Ext w0, E := Ext, refl := Ext.refl, trans := fun _ _ _ => Ext.trans }
/-- .. and of whose slots F hold pointers to new memory, each to memory of its own. -/
def Cls.grownF (w0 : World) (F : List Nat) : Cls := { C := Ext w0, E := Ext, refl := Ext.refl, trans := fun _ _ _ => Ext.trans, F := F, mono := fun _ _ _ _ h => h.size }
def newAt (c : Cls) (dst : Option Tmp) (u : Value) (w w' : World) : Prop := ∀ d, dst = some d → d ∈ c.F → ∃ g, u = .pointer (some ⟨g, 0, none⟩) ∧ w.heap.size ≤ g ∧ g < w'.heap.size
theorem newAt_nil {c : Cls} (h : c.F = []) {dst : Option Tmp} {u : Value} {w w' : World} : newAt c dst u w w' := fun d _ hd => by rw [h] at hd; cases hd
/-- The worlds of a class; nothing is kept from world to world. -/
def Cls.quiet (C : World → Prop) : Cls := { C := C, E := fun _ _ => True, refl := fun _ => trivial, trans := fun _ _ _ _ _ => trivial }
def SlS (c : Cls) (s : Sl) : Prop := ∀ u w w', c.E w w' → s.holds u w → s.holds u w'
theorem SlS_v (c : Cls) (x : Value) : SlS c (.v x) := fun _ _ _ _ h => h

/-- What one operation has to do, carried out in the frame 'a' and the world 'w'. -/
def gUpon (P : Program) (c : Cls) (dst : Option Tmp) (w : World) (s : Sl) : Result Next → Prop
  | .ok (.value u) w' => s.holds u w' ∧ c.E w w' ∧ c.C w' ∧ newAt c dst u w w'
  | .ok .skip w' => s.holds undef w' ∧ c.E w w' ∧ c.C w' ∧ newAt c dst undef w w'
  | .ok (.enter f args) w' => c.E w w' ∧ Calls P f args w' (fun e w'' => ∃ u, e = .returned u ∧ s.holds u w'' ∧ c.E w' w'' ∧ c.C w'' ∧ newAt c dst u w' w'')
  | _ => False
def gStep (P : Program) (c : Cls) (ops : Array Oper) (o : Oper) (a : Act) (w : World) (s : Sl) : Prop :=
  if Region.wanted o (yielded ops a.tmps) then gUpon P c o.dst w s ((execOp a.eval o).run P w) else s.holds undef w ∧ newAt c o.dst undef w w

section
variable {P : Program} {ops : Array Oper} {md : Region.Mode} {c : Cls} {ds : List Deferred}

def gYields (P : Program) (ops : Array Oper) (c : Cls) (ds : List Deferred) (o : Oper) (s : Sl) (env : List Sl) : Prop :=
  SlS c s ∧ ∀ xs w, c.C w → Known ops o env xs w → gStep P c ops o (fillA xs env ds) w s
def gOper (P : Program) (ops : Array Oper) (c : Cls) (ds : List Deferred) (o : Oper) (env : List Sl) (K : List Sl → Prop) : Prop :=
  ∃ s, gYields P ops c ds o s env ∧ K (envPut env o.dst s)
def wpG (P : Program) (ops : Array Oper) (c : Cls) (ds : List Deferred) (Q : List Sl → Prop) : List Oper → List Sl → Prop
  | [], env => Q env
  | o :: rest, env => gOper P ops c ds o env (wpG P ops c ds Q rest)
def gOp (P : Program) (ops : Array Oper) (c : Cls) (ds : List Deferred) (i : Nat) (K : List Sl → Prop) (env : List Sl) : Prop :=
  match ops[i]? with
  | none => K env
  | some o => gOper P ops c ds o env K
def wpAnyG (P : Program) (md : Region.Mode) (ops : Array Oper) (c : Cls) (ds : List Deferred) (L : Array Bool → List Sl → Prop) (n : Nat) : Nat → Array Bool → List Sl → Prop
  | 0, listed, env => L listed env
  | fuel + 1, listed, env =>
    Region.ready md ops listed ≠ [] ∧ ∀ i ∈ Region.ready md ops listed, i < n ∧ gOp P ops c ds i (wpAnyG P md ops c ds L n fuel (listed.setIfInBounds i true)) env

theorem gOp_mono {i : Nat} {env : List Sl} {K K' : List Sl → Prop} (h : ∀ e, K e → K' e) (hh : gOp P ops c ds i K env) : gOp P ops c ds i K' env := by
  unfold gOp at *
  split
  · rename_i ho; simp only [ho] at hh; exact h _ hh
  · rename_i o ho; simp only [ho] at hh; obtain ⟨s, h1, h2⟩ := hh; exact ⟨s, h1, h _ h2⟩

/-- The frame 'a' is one of those that 'env' tells. -/
structure Fits (c : Cls) (ds : List Deferred) (env : List Sl) (a : Act) (w : World) : Prop where
  ext : c.C w
  stable : ∀ s ∈ env, SlS c s
  ds : a.defers = ds
  size : a.tmps.size = env.length
  has : ∀ (t : Nat) (s : Sl), env[t]? = some s → Sl.holds s (a.tmps.getD t undef) w
  fr : ∀ t ∈ c.F, ∀ R, env[t]? = some (.p R) → ∃ g, a.tmps.getD t undef = .pointer (some ⟨g, 0, none⟩) ∧ g < w.heap.size
  ap : ∀ t ∈ c.F, ∀ t' ∈ c.F, t ≠ t' → ∀ R R', env[t]? = some (.p R) → env[t']? = some (.p R') → a.tmps.getD t undef ≠ a.tmps.getD t' undef

theorem Fits.fill {env : List Sl} {a : Act} {w : World} (h : Fits c ds env a w) : a = fillA (fun t => a.tmps.getD t undef) env ds := by
  obtain ⟨tmps, defers⟩ := a
  have hd := h.ds
  simp only at hd
  subst hd
  simp only [fillA, Act.mk.injEq, and_true]
  apply Array.ext_getElem?
  intro t
  have hs := h.size
  simp only at hs
  rw [show (fillFrom (fun t => tmps.getD t undef) 0 env).toArray[t]? = (fillFrom (fun t => tmps.getD t undef) 0 env)[t]? from List.getElem?_toArray, fillFrom_get]
  by_cases ht : t < env.length
  · have hh := h.has t env[t] (by simp [ht])
    simp only [ht, List.getElem?_eq_getElem, Option.map_some, Nat.zero_add]
    have e1 : tmps[t]? = some (tmps.getD t undef) := by simp [hs, ht]
    rw [e1]
    congr 1
    cases hE : env[t] with
    | v x => rw [hE] at hh; simpa [Sl.at, Sl.holds] using hh
    | p R => simp [Sl.at]
  · simp [hs, ht]

theorem Fits.known {env : List Sl} {a : Act} {w : World} (h : Fits c ds env a w) (o : Oper) : Known ops o env (fun t => a.tmps.getD t undef) w :=
  fun t _ _ hR => h.has t _ hR

theorem Fits.put {env : List Sl} {a : Act} {w w' : World} (h : Fits c ds env a w) (hx : c.E w w') (hC : c.C w') {s : Sl} (hs : SlS c s) (dst : Option Tmp) {u : Value} (hu : s.holds u w') (hn : newAt c dst u w w') :
    Fits c ds (envPut env dst s) (a.put dst u) w' := by
  cases dst with
  | none => exact ⟨hC, h.stable, h.ds, h.size, fun t s' hs' => h.stable s' (List.mem_of_getElem? hs') _ _ _ hx (h.has t s' hs'), fun t ht R hR => (let ⟨g, h1, h2⟩ := h.fr t ht R hR; ⟨g, h1, Nat.lt_of_lt_of_le h2 (c.mono t ht _ _ hx)⟩), h.ap⟩
  | some d =>
    have hge : ∀ t, t ≠ d → (a.put (some d) u).tmps.getD t undef = a.tmps.getD t undef := fun t ht => by
      have hD : ∀ b : Array Value, b.getD t undef = (b[t]?).getD undef := fun b => by simp
      rw [hD, hD]
      simp [Act.put, Array.getElem?_setIfInBounds, Ne.symm ht]
    have hgd : ∀ s', (envPut env (some d) s)[d]? = some s' → (a.put (some d) u).tmps.getD d undef = u := fun s' hs' => by
      have hl : d < env.length := by
        have := (List.getElem?_eq_some_iff.1 hs').1
        simpa [envPut] using this
      simp [Act.put, h.size, hl]
    have hen : ∀ t, t ≠ d → (envPut env (some d) s)[t]? = env[t]? := fun t ht => by
      simp only [envPut, List.getElem?_set]
      rw [if_neg (Ne.symm ht)]
    refine ⟨hC, fun s' hs' => ?_, h.ds, by simp [envPut, Act.put, h.size], fun t s' hs' => ?_, fun t ht R hR => ?_, fun t ht t' ht' hne R R' hR hR' => ?_⟩
    · rcases List.mem_or_eq_of_mem_set hs' with h1 | h1
      · exact h.stable _ h1
      · exact h1 ▸ hs
    · simp only [envPut, List.getElem?_set] at hs'
      by_cases hd : d = t
      · subst hd
        by_cases hl : d < env.length
        · simp only [if_true, hl, Option.some.injEq] at hs'
          subst hs'
          simpa [Act.put, h.size, hl] using hu
        · simp [hl] at hs'
      · rw [if_neg hd] at hs'
        have := h.stable s' (List.mem_of_getElem? hs') _ _ _ hx (h.has t s' hs')
        simpa [Act.put, hd] using this
    · by_cases hd : t = d
      · subst hd
        obtain ⟨g, h1, _, h3⟩ := hn t rfl ht
        exact ⟨g, by rw [hgd _ hR, h1], h3⟩
      · rw [hen t hd] at hR
        obtain ⟨g, h1, h2⟩ := h.fr t ht R hR
        exact ⟨g, by rw [hge t hd, h1], Nat.lt_of_lt_of_le h2 (c.mono t ht _ _ hx)⟩
    · have key : ∀ t1, t1 ∈ c.F → t1 ≠ d → ∀ R1, env[t1]? = some (.p R1) → d ∈ c.F → u ≠ a.tmps.getD t1 undef := by
        intro t1 h1 h2 R1 h3 h4 e
        obtain ⟨g, g1, g2, _⟩ := hn d rfl h4
        obtain ⟨g', g3, g4⟩ := h.fr t1 h1 R1 h3
        rw [g1, g3] at e
        injection e with e
        injection e with e
        injection e with e
        omega
      by_cases hd : t = d
      · subst hd
        have hd' : t' ≠ t := fun e => hne e.symm
        rw [hgd _ hR, hge t' hd']
        rw [hen t' hd'] at hR'
        exact key t' ht' hd' R' hR' ht
      · by_cases hd' : t' = d
        · subst hd'
          rw [hgd _ hR', hge t hd]
          rw [hen t hd] at hR
          exact fun e => key t ht hd R hR ht' e.symm
        · rw [hge t hd, hge t' hd']
          rw [hen t hd] at hR
          rw [hen t' hd'] at hR'
          exact h.ap t ht t' ht' hne R R' hR hR'

/-- One operation, for real. -/
theorem wpOp_of_gOp {i : Nat} {env : List Sl} {a : Act} {w : World} {K : List Sl → Prop} {K' : Act → World → Prop} {Q' : Exit → Act → World → Prop} (hf : Fits c ds env a w)
    (h : ∀ env' a' w', Fits c ds env' a' w' → K env' → K' a' w') (hh : gOp P ops c ds i K env) : wpOp P ops Q' i K' a w := by
  unfold gOp at hh
  unfold wpOp
  split
  · rename_i ho; simp only [ho] at hh; exact h _ _ _ hf hh
  · rename_i o ho
    simp only [ho] at hh
    obtain ⟨s, ⟨hst, hy⟩, hK⟩ := hh
    have h1 := hy _ w hf.ext (hf.known o)
    rw [← hf.fill] at h1
    unfold gStep at h1
    split
    · rename_i hw
      rw [if_pos hw] at h1
      left
      unfold Oper.wp
      generalize (execOp a.eval o).run P w = r at *
      cases r with
      | ok n w' =>
        cases n <;> simp only [gUpon] at h1 <;> simp only [Oper.upon]
        case value u => exact h _ _ _ (hf.put h1.2.1 h1.2.2.1 hst o.dst h1.1 h1.2.2.2) hK
        case skip => exact h _ _ _ (hf.put h1.2.1 h1.2.2.1 hst o.dst h1.1 h1.2.2.2) hK
        case enter f args =>
          obtain ⟨hx, hc⟩ := h1
          refine hc.mono fun e w'' ⟨u, he, hu, hx', hC', hn'⟩ => ?_
          subst he
          exact h _ _ _ (hf.put (c.trans _ _ _ hx hx') hC' hst o.dst hu (fun d hd hF => let ⟨g, g1, g2, g3⟩ := hn' d hd hF; ⟨g, g1, Nat.le_trans (c.mono d hF _ _ hx) g2, g3⟩)) hK
      | halt x w' => simp only [gUpon] at h1
    · rename_i hw
      rw [if_neg hw] at h1
      exact h _ _ _ (hf.put (c.refl w) hf.ext hst o.dst h1.1 h1.2) hK

theorem gYields_put {o : Oper} (hsel : ∀ cs b, o.op ≠ .select cs b) {s s' : Sl} {env : List Sl} {dst : Option Tmp} (hd : ∀ d, dst = some d → d ∉ o.looksAt ops) :
    gYields P ops c ds o s (envPut env dst s') ↔ gYields P ops c ds o s env := by
  unfold gYields
  refine and_congr Iff.rfl ?_
  have hstep : ∀ xs w, gStep P c ops o (fillA xs (envPut env dst s') ds) w s ↔ gStep P c ops o (fillA xs env ds) w s := by
    intro xs w
    rw [fillA_put]
    unfold gStep
    rw [wanted_put o _ dst _ hd, execOp_put o hsel _ dst _ hd]
  constructor
  · intro h xs w hx hk
    exact (hstep xs w).1 (h xs w hx ((Known.put hd).2 hk))
  · intro h xs w hx hk
    exact (hstep xs w).2 (h xs w hx ((Known.put hd).1 hk))

theorem gOp_put {j : Nat} {oi oj : Oper} {s : Sl} (hj : ops[j]? = some oj) (hap : oi.apart ops oj = true)
    (hsi : ∀ cs b, oi.op ≠ .select cs b) (hsj : ∀ cs b, oj.op ≠ .select cs b) {K : List Sl → Prop} {env : List Sl}
    (hy : gYields P ops c ds oi s env) (h : gOp P ops c ds j K (envPut env oi.dst s)) :
    gOp P ops c ds j (fun e => gYields P ops c ds oi s e ∧ K (envPut e oi.dst s)) env := by
  obtain ⟨h1, h2, h3⟩ := Oper.apart_spec hap
  unfold gOp at *
  simp only [hj] at *
  obtain ⟨t, ht, hK⟩ := h
  exact ⟨t, (gYields_put hsj h1).1 ht, (gYields_put hsi h3).2 hy, by rw [← envPut_comm env s t h2]; exact hK⟩

theorem gYields.gOp {i : Nat} {o : Oper} {s : Sl} {env : List Sl} (hi : ops[i]? = some o) (hy : gYields P ops c ds o s env) {K : List Sl → Prop} (h : K (envPut env o.dst s)) : gOp P ops c ds i K env := by
  unfold Go.Proofs.Ytapojpjmeadabaa.FF.gOp
  simp only [hi]
  exact ⟨s, hy, h⟩

theorem wpAnyG_first {n i : Nat} {oi : Oper} {s : Sl} {L : Array Bool → List Sl → Prop} (hi : ops[i]? = some oi) (hsel : ∀ (j : Nat) (o : Oper) cs b, ops[j]? = some o → o.op ≠ .select cs b)
    (hlt : ∀ listed, HeadInv md ops n listed → ∀ k, k < n → listed.getD k true = false → ∀ t ∈ Region.ready md ops listed, t < n) (hin : i < n)
    (hdone : ∀ listed e, L listed e → ∀ j ∈ Region.ready md ops listed, n ≤ j) :
    ∀ (f : Nat) (listed : Array Bool) (env : List Sl), HeadInv md ops n listed →
      (∀ j oj, ops[j]? = some oj → j ≠ i → listed.getD j true = false → (∀ e ∈ oj.after, Region.binds md e = true → e.on ≠ i) → oi.apart ops oj = true) →
      i ∈ Region.ready md ops listed → gYields P ops c ds oi s env →
      wpAnyG P md ops c ds L n f (listed.setIfInBounds i true) (envPut env oi.dst s) → wpAnyG P md ops c ds L n (f + 1) listed env := by
  intro f
  induction f with
  | zero =>
    intro listed env inv _ hr hy H
    have hun := (mem_ready.1 hr).1
    refine ⟨fun h => (by rw [h] at hr; cases hr), fun j hj => ?_⟩
    have hjn := hlt listed inv i hin hun j hj
    refine ⟨hjn, ?_⟩
    by_cases hji : j = i
    · subst hji; exact hy.gOp hi H
    · have := hdone _ _ H j (ready_mono hj hji)
      omega
  | succ f ih =>
    intro listed env inv hfree hr hy H
    have hun := (mem_ready.1 hr).1
    refine ⟨fun h => (by rw [h] at hr; cases hr), fun j hj => ?_⟩
    have hjn := hlt listed inv i hin hun j hj
    refine ⟨hjn, ?_⟩
    by_cases hji : j = i
    · subst hji; exact hy.gOp hi H
    · have h1 := (H.2 j (ready_mono hj hji)).2
      obtain ⟨hjun, oj, hoj, hall⟩ := mem_ready.1 hj
      have hnot : ∀ e ∈ oj.after, Region.binds md e = true → e.on ≠ i := fun e he hb heq => by
        have h1 := hall e he hb
        rw [heq, getD_both hun] at h1
        cases h1
      have h2 := gOp_put hoj (hfree j oj hoj hji hjun hnot) (fun cs b => hsel i oi cs b hi) (fun cs b => hsel j oj cs b hoj) hy h1
      have hfree' : ∀ k ok, ops[k]? = some ok → k ≠ i → (listed.setIfInBounds j true).getD k true = false →
          (∀ e ∈ ok.after, Region.binds md e = true → e.on ≠ i) → oi.apart ops ok = true := fun k ok hk hki hun hno => by
        refine hfree k ok hk hki ?_ hno
        by_cases hjk : j = k
        · subst hjk; exact hjun
        · rw [getD_set_ne true hjk] at hun; exact hun
      refine gOp_mono (fun a' h3 => ih (listed.setIfInBounds j true) a' (inv.set hj hjn) hfree' (ready_mono hr (Ne.symm hji)) h3.1 ?_) h2
      rw [Array.setIfInBounds_comm _ _ hji]
      exact h3.2

theorem wpAnyG_lex {n : Nat} {L : Array Bool → List Sl → Prop} {Lq : List Sl → Prop} (hs : Region.noSelect ops = true)
    (hlt : ∀ listed, HeadInv md ops n listed → ∀ k, k < n → listed.getD k true = false → ∀ t ∈ Region.ready md ops listed, t < n)
    (B : Nat → Nat → Array Bool → Bool) (hB0 : ∀ k listed, B 0 k listed = true → ∀ e, Lq e → L listed e) (hB1 : ∀ listed e, L listed e → ∀ j ∈ Region.ready md ops listed, n ≤ j)
    (hBs : ∀ f k listed, B (f + 1) k listed = true → ((Region.ready md ops listed).contains k = true ∧ Region.free md ops listed k = true) ∧ B f (k + 1) (listed.setIfInBounds k true) = true) :
    ∀ (l : List Oper) (k : Nat) (listed : Array Bool) (env : List Sl), (∀ j, j < l.length → l[j]? = ops[k + j]?) → k + l.length = n → HeadInv md ops n listed →
    B l.length k listed = true → wpG P ops c ds Lq l env → wpAnyG P md ops c ds L n l.length listed env
  | [], k, listed, env, _, _, _, hB, h => hB0 k listed hB env h
  | o :: l, k, listed, env, hl, hk, inv, hB, h => by
    have h0 : ops[k]? = some o := by simpa using (hl 0 (by simp)).symm
    obtain ⟨⟨hr, hf⟩, hB'⟩ := hBs _ _ _ hB
    have hkn : k < n := by simp only [List.length_cons] at hk; omega
    have hr' : k ∈ Region.ready md ops listed := by simpa using hr
    obtain ⟨s, hy, hK⟩ := h
    exact wpAnyG_first h0 (Region.noSelect_spec hs) hlt hkn hB1 l.length listed env inv (Region.free_spec h0 hf) hr' hy
      (wpAnyG_lex hs hlt B hB0 hB1 hBs l (k + 1) _ _ (fun j hj => by have := hl (j + 1) (by simp; omega); simpa [Nat.add_assoc, Nat.add_comm 1 j] using this)
        (by simp only [List.length_cons] at hk; omega) (inv.set hr' hkn) hB' hK)

theorem wpAny_of_G {n g : Nat} {L : Array Bool → List Sl → Prop} {Q' : Exit → Act → World → Prop} (hL : ∀ listed env a w, L listed env → Fits c ds env a w → wpAny P md ops Q' g listed a w) :
    ∀ (f : Nat) (listed : Array Bool) (env : List Sl) (a : Act) (w : World), Fits c ds env a w → wpAnyG P md ops c ds L n f listed env → wpAny P md ops Q' (f + g) listed a w
  | 0, listed, env, a, w, hf, h => by rw [Nat.zero_add]; exact hL _ _ _ _ h hf
  | f + 1, listed, env, a, w, hf, h => by
    rw [show f + 1 + g = (f + g) + 1 by omega]
    exact ⟨fun h0 => absurd h0 h.1, fun i hi => wpOp_of_gOp hf (fun env' a' w' hf' h' => wpAny_of_G hL f _ env' a' w' hf' h') (h.2 i hi).2⟩

theorem Fits.start (a : Act) (w : World) (hC : c.C w) : Fits c a.defers (a.tmps.toList.map .v) a w :=
  ⟨hC, (fun s hs => by obtain ⟨x, _, rfl⟩ := List.mem_map.1 hs; exact SlS_v c x), rfl, (by simp), (fun t s hs => by
    simp only [List.getElem?_map] at hs
    cases ht : a.tmps.toList[t]? with
    | none => rw [ht] at hs; cases hs
    | some x =>
      rw [ht] at hs
      simp only [Option.map_some, Option.some.injEq] at hs
      subst hs
      have : a.tmps[t]? = some x := by simpa using ht
      simp [Sl.holds, this]),
    (fun t _ R hR => by
      simp only [List.getElem?_map, Option.map_eq_some_iff] at hR
      obtain ⟨x, _, hx⟩ := hR
      cases hx),
    (fun t _ t' _ _ R R' hR _ => by
      simp only [List.getElem?_map, Option.map_eq_some_iff] at hR
      obtain ⟨x, _, hx⟩ := hR
      cases hx)⟩

/-- What is asked behind the region: of whatever the slots came to. -/
def gPost (c : Cls) (ds : List Deferred) (K : Act → World → Prop) (env : List Sl) : Prop :=
  ∀ (xs : Nat → Value) (w : World), c.C w → (∀ (t : Nat) (R : Value → World → Prop), env[t]? = some (Sl.p R) → R (xs t) w) →
    (∀ t ∈ c.F, ∀ t' ∈ c.F, t ≠ t' → ∀ R R', env[t]? = some (Sl.p R) → env[t']? = some (Sl.p R') → xs t ≠ xs t') → K (fillA xs env ds) w

theorem gPost.of {K : Act → World → Prop} {env : List Sl} {a : Act} {w : World} (h : gPost c ds K env) (hf : Fits c ds env a w) : K a w := by
  rw [hf.fill]
  exact h _ w hf.ext (fun t R hR => hf.has t _ hR) hf.ap

/-- **A WHOLE REGION.** -/
theorem wp_region_c {id : Nat} {Q : Exit → Act → World → Prop} {a : Act} {w : World} {l : List Oper} (c : Cls) (hC : c.C w.drew) (hm : P.follows .mixedOrders = true) (hB : Region.lexB .any l.toArray = true)
    (h : wpG P l.toArray c a.defers (gPost c a.defers (fun a' w' => Q .normal a' w')) l (a.tmps.toList.map .v)) : (Code.region id l.toArray true).wp P Q a w := by
  simp only [Region.lexB, Bool.and_eq_true] at hB
  refine wp_region_any hm ?_
  have inv0 : HeadInv .any l.toArray l.length (Array.replicate l.toArray.size false) :=
    ⟨by simp, fun j oj _ hl => (by rw [getD_replicate_false] at hl; cases hl), fun t ht ht' => by simp at ht'; omega⟩
  have H := wpAnyG_lex (md := .any) (P := P) (c := c) (ds := a.defers) (n := l.length) (ops := l.toArray)
    (L := fun listed env => Region.ready .any l.toArray listed = [] ∧ gPost c a.defers (fun a' w' => Q .normal a' w') env) hB.1
    (fun listed _ _ _ _ t ht => by
      obtain ⟨_, o, ho, _⟩ := mem_ready.1 ht
      have := (Array.getElem?_eq_some_iff.1 ho).1
      simpa using this)
    (Region.lexFrom .any l.toArray) (fun k listed hb e he => ⟨by simpa [Region.lexFrom] using hb, he⟩)
    (fun listed e hL j hj => by rw [hL.1] at hj; cases hj)
    (fun f k listed hb => by simpa [Region.lexFrom, Bool.and_eq_true] using hb)
    l 0 (Array.replicate l.toArray.size false) (a.tmps.toList.map .v) (by simp) (by simp) inv0 (by simpa using hB.2) h
  have := wpAny_of_G (Q' := Q) (g := 0) (fun listed env a' w' hL hf => ⟨hL.1, hL.2.of hf⟩) _ _ _ a w.drew (Fits.start a w.drew hC) H
  simpa using this

/-- **A REGION WHOSE LAST OPERATIONS STAND BEHIND ALL OTHERS, ONE BEHIND THE OTHER**: these are walked as they stand. -/
theorem wp_region_ct {id : Nat} {Q : Exit → Act → World → Prop} {a : Act} {w : World} {l : List Oper} (n : Nat) (c : Cls) (hC : c.C w.drew) (hm : P.follows .mixedOrders = true) (hB : Region.lexTailB .any l.toArray n = true)
    (h : wpG P l.toArray c a.defers (gPost c a.defers (fun a' w' => wpList P l.toArray Q (l.drop n) a' w')) (l.take n) (a.tmps.toList.map .v)) : (Code.region id l.toArray true).wp P Q a w := by
  simp only [Region.lexTailB, Bool.and_eq_true, decide_eq_true_eq] at hB
  obtain ⟨⟨⟨⟨hsel, hn⟩, hs⟩, hc⟩, hlex⟩ := hB
  have hn' : n < l.length := by simpa using hn
  have htl : (l.take n).length = n := by simp; omega
  have hdl : (l.drop n).length = l.toArray.size - n := by simp
  refine wp_region_any hm ?_
  have inv0 : HeadInv .any l.toArray n (Array.replicate l.toArray.size false) :=
    ⟨by simp, fun j oj _ hl => (by rw [getD_replicate_false] at hl; cases hl), fun t _ ht => getD_in (by simpa using ht) (getD_replicate_false _ _)⟩
  have H := wpAnyG_lex (md := .any) (P := P) (c := c) (ds := a.defers) (n := n) (ops := l.toArray)
    (L := fun listed env => Region.seqB .any l.toArray (l.toArray.size - n) n listed = true ∧ gPost c a.defers (fun a' w' => wpList P l.toArray Q (l.drop n) a' w') env) hsel
    (fun listed inv k hk hun t ht => by
      rcases Nat.lt_or_ge t n with h' | h'
      · exact h'
      · exact absurd ht (tail_waits hs hc (by simpa using hn) inv _ k rfl hk hun t h'))
    (fun f k listed => decide (k + f = n) && Region.lexHead .any l.toArray (l.toArray.size - n) f k listed)
    (fun k listed hb e he => by
      simp only [Nat.add_zero, Region.lexHead, Bool.and_eq_true, decide_eq_true_eq] at hb
      obtain ⟨rfl, hb⟩ := hb
      exact ⟨hb, he⟩)
    (fun listed e hL => seqB_ready hL.1)
    (fun f k listed hb => by
      simp only [Region.lexHead, Bool.and_eq_true, decide_eq_true_eq] at hb ⊢
      exact ⟨hb.2.1, by omega, hb.2.2⟩)
    (l.take n) 0 (Array.replicate l.toArray.size false) (a.tmps.toList.map .v)
    (fun j hj => by
      have hj' : j < n := by rw [htl] at hj; exact hj
      simp [hj']) (by simpa using htl) inv0 (by rw [htl]; simp only [Nat.zero_add, decide_true, Bool.true_and]; exact hlex) h
  have := wpAny_of_G (Q' := Q) (g := l.toArray.size - n) (fun listed env a' w' hL hf => by
    have h2 := hL.2.of hf
    have := wpAny_of_seq (md := .any) (Q' := Q) (l.drop n) n listed a' w' (fun j => by simp [List.getElem?_drop]) (by rw [hdl]; exact hL.1) h2
    rwa [hdl] at this) _ _ _ a w.drew (Fits.start a w.drew hC) H
  rw [htl, show n + (l.toArray.size - n) = l.toArray.size by omega] at this
  exact this

end
end Go.Proofs.Ytapojpjmeadabaa.FF
end

section
/- Rules of that theorem: the frame written out, fixed slots of new blocks. -/
namespace Go.Proofs.Ytapojpjmeadabaa.FF
open Go.RowKit
set_option linter.unusedVariables false
set_option linter.unusedSimpArgs false
section
variable {P : Program} {ops : Array Oper} {w0 : World} {F : List Nat} {QG : List Sl → Prop} {rest : List Oper} {o : Oper} {a : Act} {M : Opq} {ds : List Deferred}
abbrev fCls (w0 : World) (F : List Nat) : Cls := Cls.grownF w0 F
def notF (o : Oper) (F : List Nat) : Bool := match o.dst with | some d => !F.contains d | none => true
theorem newAt_not (h : notF o F = true) {u : Value} {w w' : World} : newAt (fCls w0 F) o.dst u w w' := fun d hd hm => by
  unfold notF at h
  rw [hd] at h
  have : d ∈ F := hm
  simp [this] at h
theorem f_same (hsel : notSelB o = true) (hl : okB ops o M = true) {s : Sl} (hs : SlS (fCls w0 F) s) (h : ∀ w, Ext w0 w → gStep P (fCls w0 F) ops o a w s) :
    gYields P ops (fCls w0 F) a.defers o s (envM a M) :=
  ⟨hs, fun xs w hC _ => by
    unfold gStep
    rw [wanted_same a xs (okB_look hl), execOp_congr o (notSel hsel) (eval_same a xs (okB_look hl))]
    exact h w hC⟩
theorem fx (hd : a.defers = ds) (hw : Region.wanted o (yielded ops a.tmps) = true) (hsel : notSelB o = true) (hl : okB ops o M = true) (hF : notF o F = true) (v : Value)
    (hr : ∀ x : Grow w0, (execOp a.eval o).run P (w0.ext x) = .ok (.value v) (w0.ext x))
    (h : wpG P ops (fCls w0 F) ds QG rest (envM (a.put o.dst v) M)) : wpG P ops (fCls w0 F) ds QG (o :: rest) (envM a M) := by
  subst hd
  exact ⟨.v v, f_same hsel hl (SlS_v _ v) (fun w hC => by
    unfold gStep
    obtain ⟨x, rfl⟩ := mk_ext hC
    rw [if_pos hw, hr x]
    exact ⟨rfl, Ext.refl _, hC, newAt_not hF⟩), by rw [envM_put_v, okB_fresh hl]; exact h⟩
theorem fc (hd : a.defers = ds) (hw : Region.wanted o (yielded ops a.tmps) = true) (hsel : notSelB o = true) (hl : okB ops o M = true) (hF : notF o F = true) (f : FuncId) (args : Array Value)
    (hr : ∀ w, (execOp a.eval o).run P w = .ok (.enter f args) w) (v : Value)
    (hc : ∀ x : Grow w0, Calls P f args (w0.ext x) fun e w'' => e = .returned v ∧ Ext (w0.ext x) w'')
    (h : wpG P ops (fCls w0 F) ds QG rest (envM (a.put o.dst v) M)) : wpG P ops (fCls w0 F) ds QG (o :: rest) (envM a M) := by
  subst hd
  exact ⟨.v v, f_same hsel hl (SlS_v _ v) (fun w hC => by
    unfold gStep
    rw [if_pos hw, hr w]
    obtain ⟨x, rfl⟩ := mk_ext hC
    exact ⟨Ext.refl _, (hc x).mono fun e w'' ⟨he, hx⟩ => ⟨v, he, rfl, hx, hC.trans hx, newAt_not hF⟩⟩), by rw [envM_put_v, okB_fresh hl]; exact h⟩
theorem fa (hds : a.defers = ds) (hw : Region.wanted o (yielded ops a.tmps) = true) (hsel : notSelB o = true) (hl : okB ops o M = true) (d : Tmp) (hd : o.dst = some d)
    (R : Value → World → Prop) (hR : ∀ u w w', Ext w w' → R u w → R u w')
    (hr : ∀ x : Grow w0, ∃ g w', (execOp a.eval o).run P (w0.ext x) = .ok (.value (.pointer (some ⟨g, 0, none⟩))) w' ∧ (w0.ext x).heap.size ≤ g ∧ g < w'.heap.size ∧ R (.pointer (some ⟨g, 0, none⟩)) w' ∧ Ext (w0.ext x) w')
    (h : wpG P ops (fCls w0 F) ds QG rest (envM (a.put (some d) undef) ((d, R) :: M))) : wpG P ops (fCls w0 F) ds QG (o :: rest) (envM a M) := by
  subst hds
  exact ⟨.p R, f_same hsel hl hR (fun w hC => by
    unfold gStep
    obtain ⟨x, rfl⟩ := mk_ext hC
    obtain ⟨g, w', h1, h2, h3, h4, h5⟩ := hr x
    rw [if_pos hw, h1]
    exact ⟨h4, h5, hC.trans h5, fun _ _ _ => ⟨g, rfl, h2, h3⟩⟩), by have e := okB_fresh hl; rw [hd] at e; rw [hd, envM_put_p, e]; exact h⟩
/-- The end: whatever the slots came to; those of new blocks apart. -/
theorem fend {K : Act → World → Prop} (hds : a.defers = ds) (M' : Opq) (hM : M = M')
    (h : ∀ (xs : Nat → Value) (x : Grow w0), (∀ (t : Nat), t < a.tmps.size → ∀ R, Opq.at M' t = some R → R (xs t) (w0.ext x)) →
      (∀ t ∈ F, ∀ t' ∈ F, t ≠ t' → t < a.tmps.size → t' < a.tmps.size → (Opq.at M' t).isSome = true → (Opq.at M' t').isSome = true → xs t ≠ xs t') → K (fillM a xs M') (w0.ext x)) :
    wpG P ops (fCls w0 F) ds (gPost (fCls w0 F) ds K) [] (envM a M) := by
  subst hM
  subst hds
  intro xs w hC hk hap
  obtain ⟨x, rfl⟩ := mk_ext hC
  rw [fillA_fillM]
  have key : ∀ t R, t < a.tmps.size → Opq.at M t = some R → (envM a M)[t]? = some (Sl.p R) := fun t R hl hR => by
    unfold envM
    rw [envFrom_get]
    simp [hl, slotM, hR]
  refine h xs x (fun t hl R hR => hk t R (key t R hl hR)) (fun t ht t' ht' hne hl hl' hs hs' => ?_)
  obtain ⟨R, hR⟩ := Option.isSome_iff_exists.1 hs
  obtain ⟨R', hR'⟩ := Option.isSome_iff_exists.1 hs'
  exact hap t ht t' ht' hne R R' (key t R hl hR) (key t' R' hl' hR')
end
theorem wp_region_ft {P : Program} {id : Nat} {Q : Exit → Act → World → Prop} {a : Act} {w : World} {l : List Oper} (n : Nat) (F : List Nat) (hm : P.follows .mixedOrders = true) (hB : Region.lexTailB .any l.toArray n = true)
    (h : wpG P l.toArray (fCls w F) a.defers (gPost (fCls w F) a.defers (fun a' w' => wpList P l.toArray Q (l.drop n) a' w')) (l.take n) (envM a [])) : (Code.region id l.toArray true).wp P Q a w :=
  wp_region_ct n (fCls w F) (Ext.refl w).drew hm hB (by rw [envM_nil] at h; exact h)
end Go.Proofs.Ytapojpjmeadabaa.FF
end

section
/- Sums and differences word by word, in plain Lean; bits.Add64, bits.Sub64 of this program. -/
namespace Go.Proofs.Ytapojpjmeadabaa
open Go.RowKit
set_option linter.unusedVariables false
set_option linter.unusedSimpArgs false

theorem val_setW (f : Nat → Nat) (k s : Nat) : val (setW f k s) (k + 1) = val f k + s * 2 ^ (64 * k) := by
  simp only [val]
  rw [val_congr (f := setW f k s) (g := f) k (fun i hi => by unfold setW; rw [if_neg (by omega)])]
  simp [setW]
/-- What holds after k rounds of a sum. -/
structure AddI (a b k : Nat) (f : Nat → Nat) (c : Nat) : Prop where
  lt : ∀ i, i < 4 → f i < 18446744073709551616
  rest : ∀ i, k ≤ i → f i = wd a i
  sum : val f k + c * 2 ^ (64 * k) = val (wd a) k + val (wd b) k
  le : c ≤ 1
theorem AddI.zero (a b : Nat) : AddI a b 0 (wd a) 0 := ⟨fun i _ => wd_lt a i, fun _ _ => rfl, rfl, by omega⟩
theorem AddI.next {a b k c : Nat} {f : Nat → Nat} (h : AddI a b k f c) (hk : k < 4) :
    AddI a b (k + 1) (setW f k ((f k + wd b k + c) % 18446744073709551616)) ((f k + wd b k + c) / 18446744073709551616) := by
  have h1 := h.lt k hk
  have h2 := wd_lt b k
  have h3 := h.le
  refine ⟨fun i hi => ?_, fun i hi => ?_, ?_, by omega⟩
  · unfold setW
    split
    · omega
    · exact h.lt i hi
  · unfold setW
    rw [if_neg (by omega)]
    exact h.rest i (by omega)
  · rw [val_setW]
    have e := h.sum
    have er := h.rest k (Nat.le_refl _)
    simp only [val]
    rw [← er, show 2 ^ (64 * (k + 1)) = 18446744073709551616 * 2 ^ (64 * k) by rw [Nat.mul_add, Nat.pow_add, Nat.mul_comm]]
    generalize 2 ^ (64 * k) = p at *
    generalize wd b k = y at *
    generalize f k = x at *
    have e3 : (x + y + c) % 18446744073709551616 * p + (x + y + c) / 18446744073709551616 * (18446744073709551616 * p) = (x + y + c) * p := by
      rw [← Nat.mul_assoc, ← Nat.add_mul]
      congr 1
      omega
    have e4 : (x + y + c) * p = x * p + y * p + c * p := by rw [Nat.add_mul, Nat.add_mul]
    omega
theorem be_of (n m q : Nat) (h : n + q * 256 ^ 32 = m) : be n 32 = be m 32 := be_congr _ _ _ (by rw [← h, Nat.add_mul_mod_self_right])
theorem AddI.done {A B : List UInt8} (hA : A.length = 32) (hB : B.length = 32) {f : Nat → Nat} {c : Nat} (h : AddI (spell A) (spell B) 4 f c) : be (val f 4) 32 = addD A B := by
  have e := h.sum
  have h1 := spell_lt A
  have h2 := spell_lt B
  rw [hA] at h1
  rw [hB] at h2
  have hp : (256 : Nat) ^ 32 = 2 ^ (64 * 4) := by decide
  rw [val_wd, val_wd, ← hp, Nat.mod_eq_of_lt h1, Nat.mod_eq_of_lt h2] at e
  exact be_of _ _ c e
/-- .. of a difference. -/
structure SubI (a b k : Nat) (f : Nat → Nat) (c : Nat) : Prop where
  lt : ∀ i, i < 4 → f i < 18446744073709551616
  rest : ∀ i, k ≤ i → f i = wd a i
  sum : val f k + val (wd b) k = val (wd a) k + c * 2 ^ (64 * k)
  le : c ≤ 1
theorem SubI.zero (a b : Nat) : SubI a b 0 (wd a) 0 := ⟨fun i _ => wd_lt a i, fun _ _ => rfl, rfl, by omega⟩
theorem SubI.next {a b k c : Nat} {f : Nat → Nat} (h : SubI a b k f c) (hk : k < 4) :
    SubI a b (k + 1) (setW f k ((f k + 18446744073709551616 - wd b k - c) % 18446744073709551616)) (if f k < wd b k + c then 1 else 0) := by
  have h1 := h.lt k hk
  have h2 := wd_lt b k
  have h3 := h.le
  refine ⟨fun i hi => ?_, fun i hi => ?_, ?_, by split <;> omega⟩
  · unfold setW
    split
    · omega
    · exact h.lt i hi
  · unfold setW
    rw [if_neg (by omega)]
    exact h.rest i (by omega)
  · rw [val_setW]
    have e := h.sum
    have er := h.rest k (Nat.le_refl _)
    simp only [val]
    rw [← er, show 2 ^ (64 * (k + 1)) = 18446744073709551616 * 2 ^ (64 * k) by rw [Nat.mul_add, Nat.pow_add, Nat.mul_comm]]
    generalize 2 ^ (64 * k) = p at *
    generalize wd b k = y at *
    generalize f k = x at *
    have key : (x + 18446744073709551616 - y - c) % 18446744073709551616 + y + c = x + (if x < y + c then 1 else 0) * 18446744073709551616 := by split <;> omega
    have e3 := congrArg (· * p) key
    simp only [Nat.add_mul, Nat.mul_assoc] at e3
    omega
theorem SubI.done {A B : List UInt8} (hA : A.length = 32) (hB : B.length = 32) {f : Nat → Nat} {c : Nat} (h : SubI (spell A) (spell B) 4 f c) : be (val f 4) 32 = subD A B := by
  have e := h.sum
  have hc := h.le
  have h1 := spell_lt A
  have h2 := spell_lt B
  rw [hA] at h1
  rw [hB] at h2
  have hp : (256 : Nat) ^ 32 = 2 ^ (64 * 4) := by decide
  rw [val_wd, val_wd, ← hp, Nat.mod_eq_of_lt h1, Nat.mod_eq_of_lt h2] at e
  unfold subD
  refine be_of _ _ (1 - c) ?_
  generalize (256 : Nat) ^ 32 = p at *
  have : c = 0 ∨ c = 1 := by omega
  rcases this with rfl | rfl <;> omega

def sub64Entry : Array Value → Sem Value := fun args => do
  let (x, y, b) ← Extern.MathBitsCarry.three "Sub64" args
  pure (Extern.MathBitsCarry.pair ((x + Extern.MathBitsCarry.m64 - y - b) % Extern.MathBitsCarry.m64) (if x < y + b then 1 else 0))
theorem run_sub64 {P : Program} (x y b : Nat) (hb : b ≤ 1) (w : World) :
    (sub64Entry #[.int .u64 x, .int .u64 y, .int .u64 b]).run P w =
      .ok (.tuple #[.int .u64 (((x + 18446744073709551616 - y - b) % 18446744073709551616 : Nat) : Int), .int .u64 ((if x < y + b then 1 else 0 : Nat) : Int)]) w := by
  have : b = 0 ∨ b = 1 := by omega
  rcases this with rfl | rfl <;> rfl
theorem add64_any (x y c : Nat) (hc : c ≤ 1) (w : World) :
    (callFunc 100 #[.int .u64 x, .int .u64 y, .int .u64 c]).run Try.prog w =
      .ok (.value (.tuple #[.int .u64 (((x + y + c) % 18446744073709551616 : Nat) : Int), .int .u64 (((x + y + c) / 18446744073709551616 : Nat) : Int)])) w := by
  rw [run_callFunc_extern Try.func100 (by kernel_rfl) (by kernel_rfl) (by kernel_rfl) (e := add64Entry) (by kernel_rfl), run_add64 x y c (by omega) (by omega) (by omega) (by omega)]
  simp only [Result.andThen]
  congr 5 <;> omega
theorem sub64_any (x y b : Nat) (hb : b ≤ 1) (w : World) :
    (callFunc 102 #[.int .u64 x, .int .u64 y, .int .u64 b]).run Try.prog w =
      .ok (.value (.tuple #[.int .u64 (((x + 18446744073709551616 - y - b) % 18446744073709551616 : Nat) : Int), .int .u64 ((if x < y + b then 1 else 0 : Nat) : Int)])) w := by
  rw [run_callFunc_extern Try.func102 (by kernel_rfl) (by kernel_rfl) (by kernel_rfl) (e := sub64Entry) (by kernel_rfl), run_sub64 x y b hb]
  rfl
end Go.Proofs.Ytapojpjmeadabaa
end

section
/- A region that draws its order, all of whose slots hold known values, and in which one operation st turns the world: those that stand before st by st's own edges meet only the worlds ahead of it; all others must be at home in both. -/
namespace Go.Proofs.Ytapojpjmeadabaa.FG
open Go.RowKit
set_option linter.unusedVariables false
set_option linter.unusedSimpArgs false
def early (md : Region.Mode) (ops : Array Oper) (st i : Nat) : Bool := i == st || (match ops[st]? with | some o => o.after.any (fun e => Region.binds md e && e.on == i) | none => false)
def sRun (P : Program) (C : Bool → World → Prop) (b' : Bool) (o : Oper) (v : Value) (a : Act) (w : World) : Prop :=
  ∃ w', ((execOp a.eval o).run P w = .ok (.value v) w' ∨ ((execOp a.eval o).run P w = .ok .skip w' ∧ v = undef)) ∧ C b' w'
def sYields (P : Program) (md : Region.Mode) (ops : Array Oper) (C : Bool → World → Prop) (st i : Nat) (o : Oper) (v : Value) (a : Act) : Prop :=
  Region.wanted o (yielded ops a.tmps) = true ∧ ∀ b, (early md ops st i = true → b = false) → ∀ w, C b w → sRun P C (b || i == st) o v a w
def sOper (P : Program) (md : Region.Mode) (ops : Array Oper) (C : Bool → World → Prop) (st i : Nat) (o : Oper) (K : Act → Prop) (a : Act) : Prop :=
  ∃ v, sYields P md ops C st i o v a ∧ K (a.put o.dst v)
def wpS (P : Program) (md : Region.Mode) (ops : Array Oper) (C : Bool → World → Prop) (st : Nat) (Q : Act → Prop) : Nat → List Oper → Act → Prop
  | _, [], a => Q a
  | k, o :: rest, a => sOper P md ops C st k o (wpS P md ops C st Q (k + 1) rest) a
def sOp (P : Program) (md : Region.Mode) (ops : Array Oper) (C : Bool → World → Prop) (st i : Nat) (K : Act → Prop) (a : Act) : Prop :=
  match ops[i]? with
  | none => K a
  | some o => sOper P md ops C st i o K a
def wpAnyS (P : Program) (md : Region.Mode) (ops : Array Oper) (C : Bool → World → Prop) (st : Nat) (L : Array Bool → Act → Prop) : Nat → Array Bool → Act → Prop
  | 0, listed, a => L listed a
  | f + 1, listed, a => Region.ready md ops listed ≠ [] ∧ ∀ i ∈ Region.ready md ops listed, sOp P md ops C st i (wpAnyS P md ops C st L f (listed.setIfInBounds i true)) a
def lexS (md : Region.Mode) (ops : Array Oper) (st : Nat) : Nat → Nat → Array Bool → Bool
  | 0, _, listed => (Region.ready md ops listed).isEmpty && listed.getD st false
  | f + 1, k, listed => ((Region.ready md ops listed).contains k && Region.free md ops listed k) && lexS md ops st f (k + 1) (listed.setIfInBounds k true)
def lexSB (md : Region.Mode) (ops : Array Oper) (st : Nat) : Bool := Region.noSelect ops && lexS md ops st ops.size 0 (Array.replicate ops.size false)

section
variable {P : Program} {ops : Array Oper} {md : Region.Mode} {C : Bool → World → Prop} {st : Nat}
theorem sOp_mono {i : Nat} {a : Act} {K K' : Act → Prop} (h : ∀ e, K e → K' e) (hh : sOp P md ops C st i K a) : sOp P md ops C st i K' a := by
  unfold sOp at *
  split
  · rename_i ho; simp only [ho] at hh; exact h _ hh
  · rename_i o ho; simp only [ho] at hh; obtain ⟨s, h1, h2⟩ := hh; exact ⟨s, h1, h _ h2⟩
theorem sYields_put {i : Nat} {o : Oper} (hsel : ∀ cs b, o.op ≠ .select cs b) {v u : Value} {a : Act} {dst : Option Tmp} (hd : ∀ d, dst = some d → d ∉ o.looksAt ops) :
    sYields P md ops C st i o v (a.put dst u) ↔ sYields P md ops C st i o v a := by
  unfold sYields sRun
  rw [wanted_put o _ dst _ hd, execOp_put o hsel _ dst _ hd]
theorem sOp_put {i j : Nat} {oi oj : Oper} {v : Value} (hj : ops[j]? = some oj) (hap : oi.apart ops oj = true)
    (hsi : ∀ cs b, oi.op ≠ .select cs b) (hsj : ∀ cs b, oj.op ≠ .select cs b) {K : Act → Prop} {a : Act}
    (hy : sYields P md ops C st i oi v a) (h : sOp P md ops C st j K (a.put oi.dst v)) :
    sOp P md ops C st j (fun e => sYields P md ops C st i oi v e ∧ K (e.put oi.dst v)) a := by
  obtain ⟨h1, h2, h3⟩ := Oper.apart_spec hap
  unfold sOp at *
  simp only [hj] at *
  obtain ⟨t, ht, hK⟩ := h
  exact ⟨t, (sYields_put hsj h1).1 ht, (sYields_put hsi h3).2 hy, by rw [← Act.put_comm a v t h2]; exact hK⟩
theorem sYields.sOp {i : Nat} {o : Oper} {v : Value} {a : Act} (hi : ops[i]? = some o) (hy : sYields P md ops C st i o v a) {K : Act → Prop} (h : K (a.put o.dst v)) : sOp P md ops C st i K a := by
  unfold Go.Proofs.Ytapojpjmeadabaa.FG.sOp
  simp only [hi]
  exact ⟨v, hy, h⟩
theorem wpAnyS_first {i : Nat} {oi : Oper} {v : Value} {L : Array Bool → Act → Prop} (hi : ops[i]? = some oi) (hsel : ∀ (j : Nat) (o : Oper) cs b, ops[j]? = some o → o.op ≠ .select cs b)
    (hdone : ∀ listed e, L listed e → Region.ready md ops listed = []) :
    ∀ (f : Nat) (listed : Array Bool) (a : Act),
      (∀ j oj, ops[j]? = some oj → j ≠ i → listed.getD j true = false → (∀ e ∈ oj.after, Region.binds md e = true → e.on ≠ i) → oi.apart ops oj = true) →
      i ∈ Region.ready md ops listed → sYields P md ops C st i oi v a →
      wpAnyS P md ops C st L f (listed.setIfInBounds i true) (a.put oi.dst v) → wpAnyS P md ops C st L (f + 1) listed a := by
  intro f
  induction f with
  | zero =>
    intro listed a _ hr hy H
    refine ⟨fun h => (by rw [h] at hr; cases hr), fun j hj => ?_⟩
    by_cases hji : j = i
    · subst hji; exact hy.sOp hi H
    · have h1 := ready_mono hj hji
      rw [hdone _ _ H] at h1
      cases h1
  | succ f ih =>
    intro listed a hfree hr hy H
    have hun := (mem_ready.1 hr).1
    refine ⟨fun h => (by rw [h] at hr; cases hr), fun j hj => ?_⟩
    by_cases hji : j = i
    · subst hji; exact hy.sOp hi H
    · have h1 := H.2 j (ready_mono hj hji)
      obtain ⟨hjun, oj, hoj, hall⟩ := mem_ready.1 hj
      have hnot : ∀ e ∈ oj.after, Region.binds md e = true → e.on ≠ i := fun e he hb heq => by
        have h1 := hall e he hb
        rw [heq, getD_both hun] at h1
        cases h1
      have h2 := sOp_put hoj (hfree j oj hoj hji hjun hnot) (fun cs b => hsel i oi cs b hi) (fun cs b => hsel j oj cs b hoj) hy h1
      have hfree' : ∀ k ok, ops[k]? = some ok → k ≠ i → (listed.setIfInBounds j true).getD k true = false →
          (∀ e ∈ ok.after, Region.binds md e = true → e.on ≠ i) → oi.apart ops ok = true := fun k ok hk hki hun hno => by
        refine hfree k ok hk hki ?_ hno
        by_cases hjk : j = k
        · subst hjk; exact hjun
        · rw [getD_set_ne true hjk] at hun; exact hun
      refine sOp_mono (fun a' h3 => ih (listed.setIfInBounds j true) a' hfree' (ready_mono hr (Ne.symm hji)) h3.1 ?_) h2
      rw [Array.setIfInBounds_comm _ _ hji]
      exact h3.2
theorem wpAnyS_lex {Q : Act → Prop} (hs : Region.noSelect ops = true) :
    ∀ (l : List Oper) (k : Nat) (listed : Array Bool) (a : Act), (∀ j, j < l.length → l[j]? = ops[k + j]?) →
    lexS md ops st l.length k listed = true → wpS P md ops C st Q k l a → wpAnyS P md ops C st (fun listed a => (Region.ready md ops listed = [] ∧ listed.getD st false = true) ∧ Q a) l.length listed a
  | [], k, listed, a, _, hB, h => by
    simp only [List.length_nil, lexS, Bool.and_eq_true, List.isEmpty_iff] at hB
    exact ⟨hB, h⟩
  | o :: l, k, listed, a, hl, hB, h => by
    have h0 : ops[k]? = some o := by simpa using (hl 0 (by simp)).symm
    simp only [List.length_cons, lexS, Bool.and_eq_true] at hB
    obtain ⟨⟨hr, hf⟩, hB'⟩ := hB
    have hr' : k ∈ Region.ready md ops listed := by simpa using hr
    obtain ⟨v, hy, hK⟩ := h
    exact wpAnyS_first h0 (Region.noSelect_spec hs) (fun _ _ hL => hL.1.1) l.length listed a (Region.free_spec h0 hf) hr' hy
      (wpAnyS_lex hs l (k + 1) _ _ (fun j hj => by have := hl (j + 1) (by simp; omega); simpa [Nat.add_assoc, Nat.add_comm 1 j] using this) hB' hK)
theorem wpOp_of_sOp {i : Nat} {o : Oper} (ho : ops[i]? = some o) {a : Act} {w : World} {K : Act → Prop} {K' : Act → World → Prop} {Q' : Exit → Act → World → Prop} {b : Bool} (hb : early md ops st i = true → b = false) (hC : C b w)
    (h : ∀ a' w', C (b || i == st) w' → K a' → K' a' w') (hh : sOp P md ops C st i K a) : wpOp P ops Q' i K' a w := by
  unfold sOp at hh
  unfold wpOp
  simp only [ho] at hh ⊢
  obtain ⟨v, ⟨hw, hy⟩, hK⟩ := hh
  obtain ⟨w', hr, hC'⟩ := hy b hb w hC
  rw [if_pos hw]
  left
  unfold Oper.wp
  rcases hr with hr | ⟨hr, rfl⟩ <;> rw [hr] <;> exact h _ _ hC' hK
theorem wpAny_of_S {Q : Act → Prop} {Q' : Exit → Act → World → Prop} (hL : ∀ a w, C true w → Q a → Q' .normal a w) :
    ∀ (f : Nat) (listed : Array Bool) (a : Act) (w : World), HeadInv md ops ops.size listed → C (listed.getD st false) w →
      wpAnyS P md ops C st (fun listed a => (Region.ready md ops listed = [] ∧ listed.getD st false = true) ∧ Q a) f listed a → wpAny P md ops Q' f listed a w
  | 0, listed, a, w, inv, hC, h => ⟨h.1.1, hL a w (by rw [h.1.2] at hC; exact hC) h.2⟩
  | f + 1, listed, a, w, inv, hC, h => by
    refine ⟨fun h0 => absurd h0 h.1, fun i hi => ?_⟩
    obtain ⟨hun, oi, hoi, hall⟩ := mem_ready.1 hi
    have hilt : i < ops.size := (Array.getElem?_eq_some_iff.1 hoi).1
    refine wpOp_of_sOp hoi (b := listed.getD st false) (fun he => ?_) hC (fun a' w' hC' hK => wpAny_of_S hL f _ a' w' (inv.set hi hilt) ?_ hK) (h.2 i hi)
    · cases hbt : listed.getD st false with
      | false => rfl
      | true =>
        exfalso
        unfold early at he
        simp only [Bool.or_eq_true, beq_iff_eq] at he
        rcases he with rfl | he
        · rw [getD_both hun] at hbt; cases hbt
        · cases hos : ops[st]? with
          | none => rw [hos] at he; cases he
          | some o =>
            rw [hos] at he
            simp only [Array.any_eq_true', Bool.and_eq_true, beq_iff_eq] at he
            obtain ⟨e, he1, he2, he3⟩ := he
            have h1 := inv.closed st o hos hbt e he1 he2
            rw [he3, getD_both hun] at h1
            cases h1
    · by_cases his : i = st
      · subst his
        have e1 : (listed.setIfInBounds i true).getD i false = true := by
          have := inv.size
          simp [this, hilt]
        rw [e1]
        have e2 : (listed.getD i false || i == i) = true := by simp
        rw [e2] at hC'
        exact hC'
      · rw [getD_set_ne false his]
        have e2 : (listed.getD st false || i == st) = listed.getD st false := by
          have : (i == st) = false := by simpa using his
          rw [this, Bool.or_false]
        rw [e2] at hC'
        exact hC'
end
theorem wp_region_s {P : Program} {id : Nat} {Q : Exit → Act → World → Prop} {a : Act} {w : World} {l : List Oper} (st : Nat) (C : Bool → World → Prop) (hC : C false w.drew) (hm : P.follows .mixedOrders = true) (hB : lexSB .any l.toArray st = true)
    (h : wpS P .any l.toArray C st (fun a' => ∀ w', C true w' → Q .normal a' w') 0 l a) : (Code.region id l.toArray true).wp P Q a w := by
  simp only [lexSB, Bool.and_eq_true] at hB
  refine wp_region_any hm ?_
  have inv0 : HeadInv .any l.toArray l.toArray.size (Array.replicate l.toArray.size false) :=
    ⟨by simp, fun j oj _ hl => (by rw [getD_replicate_false] at hl; cases hl), fun t ht ht' => by omega⟩
  have H := wpAnyS_lex (md := .any) (P := P) (ops := l.toArray) (C := C) (st := st) hB.1 l 0 (Array.replicate l.toArray.size false) a (by simp) (by simpa using hB.2) h
  have := wpAny_of_S (Q' := Q) (fun a' w' hC' hQ => hQ w' hC') _ _ a w.drew inv0 (by rw [getD_replicate_false]; exact hC) H
  simpa using this

/-! ### Rules: C false: worlds that have only grown out of w0; C true: any of D. -/
section
variable {P : Program} {ops : Array Oper} {w0 : World} {D : World → Prop} {st k : Nat} {Q : Act → Prop} {rest : List Oper} {o : Oper} {a : Act}
def two (w0 : World) (D : World → Prop) : Bool → World → Prop
  | false, w => Ext w0 w
  | true, w => D w
/-- An operation that looks at nothing but its slots. -/
theorem sp (hw : Region.wanted o (yielded ops a.tmps) = true) (hs : (k == st) = false) (v : Value) (hr : ∀ w, (execOp a.eval o).run P w = .ok (.value v) w)
    (h : wpS P .any ops (two w0 D) st Q (k + 1) rest (a.put o.dst v)) : wpS P .any ops (two w0 D) st Q k (o :: rest) a :=
  ⟨v, ⟨hw, fun b _ w hC => ⟨w, .inl (hr w), by rw [hs, Bool.or_false]; exact hC⟩⟩, h⟩
/-- One that stands before st, and reads. -/
theorem sq (hw : Region.wanted o (yielded ops a.tmps) = true) (hs : (k == st) = false) (he : early .any ops st k = true) (v : Value) (hr : ∀ x : Grow w0, (execOp a.eval o).run P (w0.ext x) = .ok (.value v) (w0.ext x))
    (h : wpS P .any ops (two w0 D) st Q (k + 1) rest (a.put o.dst v)) : wpS P .any ops (two w0 D) st Q k (o :: rest) a :=
  ⟨v, ⟨hw, fun b hb w hC => by
    have := hb he
    subst this
    obtain ⟨x, rfl⟩ := mk_ext hC
    exact ⟨w0.ext x, .inl (hr x), by rw [hs]; exact hC⟩⟩, h⟩
/-- st itself: a store. -/
theorem ss (hw : Region.wanted o (yielded ops a.tmps) = true) (hs : (k == st) = true) (hr : ∀ x : Grow w0, ∃ w', (execOp a.eval o).run P (w0.ext x) = .ok .skip w' ∧ D w')
    (h : wpS P .any ops (two w0 D) st Q (k + 1) rest (a.put o.dst undef)) : wpS P .any ops (two w0 D) st Q k (o :: rest) a :=
  ⟨undef, ⟨hw, fun b hb w hC => by
    have := hb (by unfold early; rw [hs, Bool.true_or])
    subst this
    obtain ⟨x, rfl⟩ := mk_ext hC
    obtain ⟨w', h1, h2⟩ := hr x
    exact ⟨w', .inr ⟨h1, rfl⟩, by rw [hs]; exact h2⟩⟩, h⟩
end
end Go.Proofs.Ytapojpjmeadabaa.FG
end

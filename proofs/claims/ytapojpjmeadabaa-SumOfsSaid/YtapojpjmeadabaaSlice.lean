/- Slices as the walks meet them: what a slice reads as; a slice that is one's own; the laws of append, slicing, len at a slice of whatever address. -/
import Derived.Test.YtapojpjmeadabaaMem
import Derived.Laws.AppendOwnNone
import Derived.OwnWalk
namespace Go.Proofs.Ytapojpjmeadabaa
open Go.RowKit
set_option linter.unusedVariables false
set_option linter.unusedSimpArgs false
set_option maxRecDepth 100000

/-- 'v' is a slice of n elements of sz cells each, that reads as the cells xs. -/
structure Rd (w : World) (sz : Nat) (v : Value) (n : Nat) (xs : List Value) : Prop where
  len : xs.length = n * sz
  is : ∃ A cap, v = .slice A n cap ∧ n ≤ cap ∧ cap ≤ maxLen ∧ (A = none → cap = 0) ∧
    (0 < n → ∃ b o, A = some ⟨b, o, none⟩ ∧ b < w.heap.size ∧ ∀ j u, xs[j]? = some u → w.cell? ⟨b, o + j, none⟩ = some u)

theorem Rd.nil (w : World) (sz : Nat) : Rd w sz (.slice none 0 0) 0 [] := ⟨by simp, none, 0, rfl, Nat.le_refl _, Nat.zero_le _, fun _ => rfl, fun h => absurd h (Nat.lt_irrefl _)⟩
theorem Rd.mono {w w' : World} {sz n : Nat} {v : Value} {xs : List Value} (h : Rd w sz v n xs) (hk : ∀ b, b < w.heap.size → w'.heap[b]? = w.heap[b]?) : Rd w' sz v n xs := by
  obtain ⟨hl, A, cap, hv, h1, h2, h3, h4⟩ := h
  refine ⟨hl, A, cap, hv, h1, h2, h3, fun hn => ?_⟩
  obtain ⟨b, o, ha, hb, hc⟩ := h4 hn
  have hb' : b < w'.heap.size := by
    have := hk b hb
    rw [Array.getElem?_eq_getElem hb] at this
    exact (Array.getElem?_eq_some_iff.1 this).1
  exact ⟨b, o, ha, hb', fun j u hj => (World.cell?_of_block (hk b hb)).trans (hc j u hj)⟩
theorem Rd.ext {w w' : World} {sz n : Nat} {v : Value} {xs : List Value} (h : Rd w sz v n xs) (hx : Ext w w') : Rd w' sz v n xs := h.mono fun _ hb => hx.block hb
/-- The slice that is known to have an element: its address. -/
theorem Rd.pos {w : World} {sz n : Nat} {v : Value} {xs : List Value} (h : Rd w sz v n xs) (hn : 0 < n) :
    ∃ b o cap, v = .slice (some ⟨b, o, none⟩) n cap ∧ n ≤ cap ∧ cap ≤ maxLen ∧ b < w.heap.size ∧ ∀ j u, xs[j]? = some u → w.cell? ⟨b, o + j, none⟩ = some u := by
  obtain ⟨A, cap, hv, h1, h2, h3, h4⟩ := h.is
  obtain ⟨b, o, ha, hb, hc⟩ := h4 hn
  exact ⟨b, o, cap, by rw [hv, ha], h1, h2, hb, hc⟩
theorem Rd.lit {w : World} {sz b o n cap : Nat} {xs : List Value} (hl : xs.length = n * sz) (hn : n ≤ cap) (hc : cap ≤ maxLen) (hb : b < w.heap.size) (h : ∀ j u, xs[j]? = some u → w.cell? ⟨b, o + j, none⟩ = some u) :
    Rd w sz (.slice (some ⟨b, o, none⟩) n cap) n xs := ⟨hl, _, cap, rfl, hn, hc, (by intro e; cases e), fun _ => ⟨b, o, rfl, hb, h⟩⟩
theorem Rd.zero {w : World} {sz cap : Nat} {A : Option Addr} (hc : cap ≤ maxLen) (hA : A = none → cap = 0) : Rd w sz (.slice A 0 cap) 0 [] := ⟨by simp, A, cap, rfl, Nat.zero_le _, hc, hA, fun h => absurd h (Nat.lt_irrefl _)⟩
/-- A piece of it. -/
theorem Rd.sub {w : World} {sz n cap : Nat} {A : Option Addr} {xs : List Value} (h : Rd w sz (.slice A n cap) n xs) {l k : Nat} (hlk : l ≤ k) (hk : k ≤ n) :
    Rd w sz (.slice (if cap = l then A else A.map (·.add (l * sz))) (k - l) (cap - l)) (k - l) ((xs.take (k * sz)).drop (l * sz)) := by
  obtain ⟨hl, A', cap', hv, h1, h2, h3, h4⟩ := h
  injection hv with e1 e2 e3
  subst e1; subst e3
  have hks : k * sz ≤ n * sz := Nat.mul_le_mul_right _ hk
  refine ⟨by rw [List.length_drop, List.length_take, hl, Nat.min_eq_left hks, Nat.sub_mul], _, _, rfl, by omega, by omega, ?_, fun hn => ?_⟩
  · intro e
    by_cases hc : cap = l
    · omega
    · rw [if_neg hc] at e
      cases A with
      | none => have := h3 rfl; omega
      | some p => cases e
  · have hn' : 0 < n := by omega
    obtain ⟨b, o, ha, hb, hc⟩ := h4 hn'
    subst ha
    rw [if_neg (by omega)]
    refine ⟨b, o + l * sz, ?_, hb, fun j u hj => ?_⟩
    · simp only [Option.map_some, Option.some.injEq]
      unfold Addr.add
      split
      · rename_i e; rw [e]; rfl
      · rfl
    · rw [List.getElem?_drop] at hj
      have : xs[l * sz + j]? = some u := by
        rw [List.getElem?_take] at hj
        split at hj
        · exact hj
        · cases hj
      have := hc _ _ this
      rw [show o + l * sz + j = o + (l * sz + j) by omega]
      exact this

/-! ### The element types of this program -/
structure EI (t e : TypeId) (z : Value) (sz bytes : Nat) : Prop where
  t : Try.prog.underlying t = some (.slice e)
  info : (Try.prog.info? e).map (fun i => (i.zero, i.size, i.bytes)) = some (some z, sz, bytes)
  cells : z.cells.size = sz
  pos : 0 < sz
  lt : bytes ≤ 32768
theorem ei23 : EI 23 5 (.int .u8 0) 1 1 := ⟨Try.underlying23, by kernel_rfl, rfl, by decide, by decide⟩
theorem ei22 : EI 22 23 (.slice none 0 0) 1 24 := ⟨Try.underlying22, by kernel_rfl, rfl, by decide, by decide⟩
theorem ei96 : EI 96 95 (.int .u32 0) 1 4 := ⟨Try.underlying96, by kernel_rfl, rfl, by decide, by decide⟩
theorem ei127 : EI 127 3 (.int .i64 0) 1 8 := ⟨Try.underlying127, by kernel_rfl, rfl, by decide, by decide⟩
theorem ei38 : EI 38 50 (.agg #[.int .i64 0, .slice none 0 0]) 2 32 := ⟨Try.underlying38, by kernel_rfl, rfl, by decide, by decide⟩
theorem ei66 : EI 66 27 (.agg (Array.replicate 32 (.int .u8 0))) 32 32 := ⟨Try.underlying66, by kernel_rfl, by simp [Value.cells], by decide, by decide⟩

/-! ### Slicing -/
theorem EI.size {t e : TypeId} {z : Value} {sz bytes : Nat} (E : EI t e z sz bytes) (w : World) : (sizeOf e).run Try.prog w = .ok sz w := by
  have h := E.info
  cases hq : Try.prog.info? e with
  | none => simp [hq] at h
  | some i =>
    simp [hq] at h
    simp [sizeOf, typeInfo, hq, h]
/-- The bounds of a slice expression as operands: nothing, or a value that is a number. -/
def bnd (x : Option Value) (n : Nat) : Prop := ∀ v, x = some v → v = .int .i64 (n : Int)
theorem run_slice_rd {t e : TypeId} {z : Value} {sz bytes : Nat} (E : EI t e z sz bytes) {w : World} {v : Value} {n : Nat} {xs : List Value} (h : Rd w sz v n xs)
    (lo hi : Option Value) (l k : Nat) (hlo : lo = none ∧ l = 0 ∨ lo = some (.int .i64 (l : Int))) (hhi : hi = none ∧ k = n ∨ hi = some (.int .i64 (k : Int))) (hlk : l ≤ k) (hk : k ≤ n) :
    ∃ v', (Instr.slice t v lo hi none).run Try.prog w = .ok v' w ∧ Rd w sz v' (k - l) ((xs.take (k * sz)).drop (l * sz)) := by
  obtain ⟨A, cap, rfl, h1, h2, h3, h4⟩ := h.is
  refine ⟨_, ?_, h.sub hlk hk⟩
  have hb : ∀ (m : Nat) (c : BoundsCode) (y : Nat), m ≤ y → (Instr.sliceBound (.int .i64 (m : Int)) y c).run Try.prog w = .ok m w := by
    intro m c y hm
    simp [Instr.sliceBound, asIntOf]
    intro h
    omega
  have hbs : (Instr.sliceBounds true n cap lo hi none).run Try.prog w = .ok (l, k, cap) w := by
    have hkc : k ≤ cap := by omega
    unfold Instr.sliceBounds
    rcases hlo with ⟨rfl, rfl⟩ | rfl <;> rcases hhi with ⟨rfl, rfl⟩ | rfl <;> simp [Sem.run_bind, hb, hlk, hk, hkc, h1]
  simp [Instr.slice, Sem.run_bind, run_underlying E.t, hbs, E.size]

theorem wpList_slice_rd {t e : TypeId} {z : Value} {sz bytes : Nat} (E : EI t e z sz bytes) {ops : Array Oper} {rest : List Oper} {o : Oper} {a : Act} {w : World} {Q : Exit → Act → World → Prop} (hgd : o.guard = none)
    (x : Operand) (lo hi : Option Operand) (ho : o.op = .slice t x lo hi none) (v : Value) (hx : a.eval x = v) {n : Nat} {xs : List Value} (h : Rd w sz v n xs) (l k : Nat)
    (hlo : lo = none ∧ l = 0 ∨ lo.map a.eval = some (.int .i64 (l : Int))) (hhi : hi = none ∧ k = n ∨ hi.map a.eval = some (.int .i64 (k : Int))) (hlk : l ≤ k) (hk : k ≤ n)
    (hK : ∀ v', Rd w sz v' (k - l) ((xs.take (k * sz)).drop (l * sz)) → wpList Try.prog ops Q rest (a.put o.dst v') w) : wpList Try.prog ops Q (o :: rest) a w := by
  refine wpList_plain hgd fun K hKK => ?_
  obtain ⟨v', hr, hv'⟩ := run_slice_rd E h (lo.map a.eval) (hi.map a.eval) l k (by rcases hlo with ⟨rfl, rfl⟩ | h <;> simp_all) (by rcases hhi with ⟨rfl, rfl⟩ | h <;> simp_all) hlk hk
  have hr' : (Instr.sliceAt t v (lo.map a.eval) (hi.map a.eval) none).run Try.prog w = .ok v' w := by rw [← hr]; simp [Instr.sliceAt, run_underlying E.t]
  unfold Oper.wp execOp
  simp only [ho, hx, Option.map_none, Sem.run_bind, hr', Result.andThen_ok, Sem.run_pure, Oper.upon]
  exact hKK _ _ (hK v' hv')

/-! ### A slice that is one's own -/
abbrev Own (w : World) (e : TypeId) (sz : Nat) (v : Value) (n : Nat) (xs : List Value) : Prop := w.ownsRow 0 e sz v n xs
theorem Own.rd {w : World} {e : TypeId} {sz n : Nat} {v : Value} {xs : List Value} (h : Own w e sz v n xs) : Rd w sz v n xs := by
  obtain ⟨hl, h2⟩ := h
  rcases h2 with ⟨rfl, rfl⟩ | ⟨g, cap, cur, rfl, _, hg, h1, h2, hs, ht⟩
  · have : xs = [] := List.eq_nil_of_length_eq_zero (by simpa using hl)
    subst this
    exact Rd.nil w sz
  · refine Rd.lit hl h1 h2 (Array.getElem?_eq_some_iff.1 hg).1 fun j u hj => ?_
    rw [Nat.zero_add, cell_of_row _ _ _ _ _ _ hg]
    rw [← ht, List.getElem?_take] at hj
    split at hj
    · simpa using hj
    · cases hj
theorem Own.ext {w w' : World} {e : TypeId} {sz n : Nat} {v : Value} {xs : List Value} (h : Own w e sz v n xs) (hx : Ext w w') : Own w' e sz v n xs :=
  World.ownsRow.kept h (row := none) ⟨hx.os, hx.tape, hx.output, hx.size, fun k hk _ => hx.block hk⟩ (by cases v.ownBlock <;> simp)
theorem Own.keep {w w' : World} {e : TypeId} {sz n g : Nat} {v : Value} {xs : List Value} (h : Own w e sz v n xs) (hx : Upd w w' g) (hne : v.ownBlock ≠ some g) : Own w' e sz v n xs :=
  World.ownsRow.kept h hx (.inr hne)
theorem Own.not_block {w : World} {e T : TypeId} {sz n g : Nat} {v : Value} {xs : List Value} {c : Array Value} {fr : Nat × Nat} (h : Own w e sz v n xs) (hg : w.heap[g]? = some (.cells c T fr)) (hne : e ≠ T) : v.ownBlock ≠ some g := by
  intro hv
  obtain ⟨hl, h2⟩ := h
  rcases h2 with ⟨rfl, rfl⟩ | ⟨g', cap, cur, rfl, _, hg', _⟩
  · cases hv
  · injection hv with e1
    subst e1
    rw [hg'] at hg
    injection hg with e2
    injection e2 with e3 e4 e5
    exact hne e4
theorem Own.lt {w : World} {e : TypeId} {sz n g : Nat} {v : Value} {xs : List Value} (h : Own w e sz v n xs) (hv : v.ownBlock = some g) : g < w.heap.size := (World.ownsRow.lt h g hv).2
theorem Own.nil (w : World) (e : TypeId) (sz : Nat) : Own w e sz (.slice none 0 0) 0 [] := World.ownsRow_nil w 0 e sz

/-- What append leaves: the own block, and new ones. -/
abbrev Grew (w w' : World) (v : Value) : Prop := w.grownBy w' v.ownBlock
theorem run_append_rd {t e : TypeId} {z : Value} {sz bytes : Nat} (E : EI t e z sz bytes) (ty : TypeId) (w : World) (v : Value) (n : Nat) (xs : List Value) (hown : Own w e sz v n xs)
    (s : Value) (m : Nat) (ys : List Value) (hs : Rd w sz s m ys) (h1 : ∀ u ∈ ys, u.oneCell' = true) (h63 : n + m ≤ 4294967296) :
    ∃ v' w', (Builtin.append_ #[t, t] ty #[v, s]).run Try.prog w = .ok v' w' ∧ Own w' e sz v' (n + m) (xs ++ ys) ∧ Grew w w' v ∧ (v'.ownBlock = v.ownBlock ∨ ∀ g, v'.ownBlock = some g → w.heap.size ≤ g) := by
  obtain ⟨i, hi, hz0, hz1, hz2⟩ := info_parts E.info
  have hb : (n + m) * bytes ≤ 140737488355328 := Nat.le_trans (Nat.mul_le_mul h63 E.lt) (by decide)
  have h63' : n + m ≤ maxLen := Nat.le_trans h63 (by unfold maxLen; decide)
  have hnew : ∀ {w' : World} {v' : Value} {ys : List Value}, Own w' e sz v' (n + m) ys → w.grownBy w' v.ownBlock → (∀ g, v'.ownBlock = some g → g < w'.heap.size) := fun h _ g hg => h.lt hg
  obtain ⟨A, cap, rfl, h2, h3, h4, h5⟩ := hs.is
  have core : ∀ p : Addr, (∀ j u, ys[j]? = some u → w.cell? (p.add j) = some u) → ∃ v' w', (Builtin.append_ #[t, t] ty #[v, .slice (some p) m cap]).run Try.prog w = .ok v' w' ∧ Own w' e sz v' (n + m) (xs ++ ys) ∧ Grew w w' v ∧ (v'.ownBlock = v.ownBlock ∨ ∀ g, v'.ownBlock = some g → w.heap.size ≤ g) := by
    intro p hp
    rcases hown.2 with ⟨rfl, rfl⟩ | ⟨g, c, cur, rfl, _, hg, hnc, hcm, hcs, htake⟩
    · have hx : xs = [] := List.eq_nil_of_length_eq_zero (by simpa using hown.1)
      subst hx
      have ho : w.ownsRow w.heap.size e sz (.slice none 0 0) 0 [] := World.ownsRow_nil w _ _ _
      obtain ⟨v', w', hr, ho', hg', _⟩ := run_append_own (P := Try.prog) w w.heap.size t ty e i z sz bytes E.t hi hz0 hz1 hz2 E.cells E.pos (.slice none 0 0) 0 [] ho p m cap ys hs.len hp h1 h63' hb (Nat.le_refl _)
      refine ⟨v', w', hr, ?_, hg', .inr fun g hv => (World.ownsRow.lt ho' g hv).1⟩
      obtain ⟨ha, hb'⟩ := ho'
      refine ⟨ha, ?_⟩
      rcases hb' with h | ⟨g, c, cur, q1, _, q2⟩
      · exact .inl h
      · exact .inr ⟨g, c, cur, q1, Nat.zero_le _, q2⟩
    · by_cases hroom : n + m ≤ c
      · obtain ⟨w', hr, ho', hg'⟩ := run_append_fits (P := Try.prog) w 0 t ty e i sz E.t hi hz1 g n c xs hown p m cap ys hs.len hp h1 hroom
        exact ⟨_, w', hr, ho', hg', .inl rfl⟩
      · have holds : ∀ j u, xs[j]? = some u → w.cell? ((⟨g, 0, none⟩ : Addr).add j) = some u := hown.cells (g := g) rfl
        subst hz1
        subst hz2
        have hr := run_append_grow (P := Try.prog) w t ty e i z E.t hi hz0 ⟨g, 0, none⟩ n c xs hown.1 holds p m cap ys hs.len hp (by omega) (by unfold maxLen at h63'; omega) (growslice_fits (by omega) hb)
        refine ⟨_, _, hr, ?_, ⟨rfl, rfl, rfl, by simp, fun k hk _ => heap_alloc_old w.drew _ hk⟩, .inr fun g' hv => by injection hv with e1; subst e1; exact Nat.le_refl _⟩
        refine ⟨by rw [List.length_append, hown.1, hs.len, Nat.add_mul], .inr ⟨w.heap.size, _, _, rfl, Nat.zero_le _, heap_alloc_new w.drew _, grownCap_ge w (n + m) c e, grownCap_le_maxLen w (n + m) c e h63', ?_, ?_⟩⟩
        · have hzc := E.cells
          simp only [Array.size_append, List.size_toArray, size_zeroCells, hzc, hown.1, hs.len, ← Nat.add_mul]
          congr 1
          have := grownCap_ge w (n + m) c e
          omega
        · simp only [Array.toList_append, List.append_assoc]
          rw [← List.append_assoc]
          have : (xs ++ ys).length = (n + m) * i.size := by rw [List.length_append, hown.1, hs.len, Nat.add_mul]
          rw [← this]
          exact List.take_left
  cases A with
  | none =>
    have hc : cap = 0 := h4 rfl
    subst hc
    have hm : m = 0 := by omega
    subst hm
    have hys : ys = [] := List.eq_nil_of_length_eq_zero (by simpa using hs.len)
    subst hys
    exact ⟨v, w, run_append_owned_none w 0 t ty e i sz E.t hi v n xs hown, by simpa using hown, World.grownBy.refl _ _, .inl rfl⟩
  | some p =>
    refine core p fun j u hj => ?_
    by_cases hm : m = 0
    · subst hm
      have hys : ys = [] := List.eq_nil_of_length_eq_zero (by simpa using hs.len)
      subst hys
      cases hj
    · obtain ⟨b, o, ha, hb', hc⟩ := h5 (by omega)
      injection ha with ha
      subst ha
      rw [Addr.add_lit]
      exact hc j u hj

theorem wpList_append_rd {t e : TypeId} {z : Value} {sz bytes : Nat} (E : EI t e z sz bytes) {ops : Array Oper} {rest : List Oper} {o : Oper} {a : Act} {w : World} {Q : Exit → Act → World → Prop} (hgd : o.guard = none)
    (s x : Operand) (ho : o.op = .call { callee := .builtin .append, args := #[s, x], argTypes := #[t, t] }) (v : Value) (hs : a.eval s = v) {n : Nat} {xs : List Value} (hown : Own w e sz v n xs)
    (y : Value) (hx : a.eval x = y) {m : Nat} {ys : List Value} (hy : Rd w sz y m ys) (h1 : ∀ u ∈ ys, u.oneCell' = true) (h63 : n + m ≤ 4294967296)
    (hK : ∀ v' w', Own w' e sz v' (n + m) (xs ++ ys) → Grew w w' v → (v'.ownBlock = v.ownBlock ∨ ∀ g, v'.ownBlock = some g → w.heap.size ≤ g) → wpList Try.prog ops Q rest (a.put o.dst v') w') : wpList Try.prog ops Q (o :: rest) a w := by
  refine wpList_plain hgd fun K hKK => ?_
  obtain ⟨v', w', hr, h2, h3, h4⟩ := run_append_rd E o.type w v n xs hown y m ys hy h1 h63
  unfold Oper.wp execOp
  simp only [ho, resolve, invoke, builtin, Sem.run_bind, Sem.run_pure, Result.andThen_ok, List.map_toArray, List.map_cons, List.map_nil, hs, hx, hr]
  exact hKK _ _ (hK v' w' h2 h3 h4)

/-! ### Worlds in which some old blocks have turned -/
structure Chg (w w' : World) (S : Nat → Prop) : Prop where
  os : w'.os = w.os
  tape : w'.tape = w.tape
  output : w'.output = w.output
  size : w.heap.size ≤ w'.heap.size
  block : ∀ k, k < w.heap.size → ¬ S k → w'.heap[k]? = w.heap[k]?
theorem Chg.refl (w : World) (S : Nat → Prop) : Chg w w S := ⟨rfl, rfl, rfl, Nat.le_refl _, fun _ _ _ => rfl⟩
theorem Chg.trans {a b c : World} {S T : Nat → Prop} (h : Chg a b S) (k : Chg b c T) (hT : ∀ i, i < a.heap.size → T i → S i) : Chg a c S :=
  ⟨k.os.trans h.os, k.tape.trans h.tape, k.output.trans h.output, Nat.le_trans h.size k.size, fun i hi hn => (k.block i (Nat.lt_of_lt_of_le hi h.size) fun ht => hn (hT i hi ht)).trans (h.block i hi hn)⟩
theorem Chg.of_ext {a b : World} (h : Ext a b) (S : Nat → Prop) : Chg a b S := ⟨h.os, h.tape, h.output, h.size, fun k hk _ => h.block hk⟩
theorem Chg.ext {a b : World} {S : Nat → Prop} (h : Chg a b S) (hS : ∀ k, S k → a.heap.size ≤ k) : Ext a b := ⟨h.os, h.tape, h.output, h.size, fun k hk => h.block k hk fun hs => by have := hS k hs; omega⟩
theorem Chg.of_upd {a b : World} {g : Nat} (h : Upd a b g) : Chg a b (· = g) := ⟨h.os, h.tape, h.output, h.size, fun k hk hn => h.block k hk fun e => hn (by injection e)⟩
theorem Chg.of_grew {a b : World} {v : Value} (h : Grew a b v) : Chg a b (fun k => some k = v.ownBlock) := ⟨h.os, h.tape, h.output, h.size, fun k hk hn => h.block k hk hn⟩
theorem Chg.upd {a b : World} {g : Nat} (h : Chg a b (· = g)) : Upd a b g := ⟨h.os, h.tape, h.output, h.size, fun k hk hn => h.block k hk fun e => hn (by rw [e])⟩
theorem Grew.ext {a b : World} {v : Value} (h : Grew a b v) (hv : ∀ g, v.ownBlock = some g → a.heap.size ≤ g) : Ext a b := (Chg.of_grew h).ext fun k hk => hv k hk.symm
theorem Grew.ext_nil {a b : World} {c : Nat} (h : Grew a b (.slice none 0 c)) : Ext a b := Grew.ext h fun g hg => nomatch hg
theorem Rd.chg {w w' : World} {sz n : Nat} {v : Value} {xs : List Value} {S : Nat → Prop} (h : Rd w sz v n xs) (hc : Chg w w' S) (hv : ∀ b o c, v = .slice (some ⟨b, o, none⟩) n c → 0 < n → ¬ S b) : Rd w' sz v n xs := by
  obtain ⟨hl, A, cap, hv', h1, h2, h3, h4⟩ := h
  refine ⟨hl, A, cap, hv', h1, h2, h3, fun hn => ?_⟩
  obtain ⟨b, o, ha, hb, hcell⟩ := h4 hn
  have := hc.block b hb (hv b o cap (by rw [hv', ha]) hn)
  refine ⟨b, o, ha, Nat.lt_of_lt_of_le hb hc.size, fun j u hj => (World.cell?_of_block this).trans (hcell j u hj)⟩
theorem Own.chg {w w' : World} {e : TypeId} {sz n : Nat} {v : Value} {xs : List Value} {S : Nat → Prop} (h : Own w e sz v n xs) (hc : Chg w w' S) (hv : ∀ g, v.ownBlock = some g → ¬ S g) : Own w' e sz v n xs := by
  obtain ⟨hl, h2⟩ := h
  refine ⟨hl, ?_⟩
  rcases h2 with h2 | ⟨g, cap, cur, q1, q2, hg, q3⟩
  · exact .inl h2
  · refine .inr ⟨g, cap, cur, q1, q2, ?_, q3⟩
    rw [hc.block g (Array.getElem?_eq_some_iff.1 hg).1 (hv g (by rw [q1]; rfl))]
    exact hg
/-! ### Bytes -/
abbrev Bs (w : World) (v : Value) (l : List UInt8) : Prop := Rd w 1 v l.length (l.map B8)
abbrev OwnB (w : World) (v : Value) (l : List UInt8) : Prop := Own w 5 1 v l.length (l.map B8)
theorem one_bytes (l : List UInt8) : ∀ u ∈ l.map B8, u.oneCell' = true := by
  intro u hu
  obtain ⟨x, _, rfl⟩ := List.mem_map.1 hu
  rfl
theorem Bs.sub_list (l : List UInt8) (i k : Nat) : ((l.map B8).take (k * 1)).drop (i * 1) = ((l.take k).drop i).map B8 := by simp
theorem Bs.of_rd {w : World} {v : Value} {n : Nat} {l l' : List UInt8} (h : Rd w 1 v n (l.map B8)) (hn : n = l'.length) (hl : l = l') : Bs w v l' := by subst hl; subst hn; exact h
theorem Bs.cell {w : World} {b o : Nat} {l : List UInt8} (h : ∀ j u, (l.map B8)[j]? = some u → w.cell? ⟨b, o + j, none⟩ = some u) (i : Nat) (hi : i < l.length) : w.cell? ⟨b, o + i, none⟩ = some (B8 (l.getD i 0)) :=
  h i _ (by simp [hi])

theorem wpList_slice_bs {ops : Array Oper} {rest : List Oper} {o : Oper} {a : Act} {w : World} {Q : Exit → Act → World → Prop} (hgd : o.guard = none)
    (x : Operand) (lo hi : Option Operand) (ho : o.op = .slice 23 x lo hi none) (v : Value) (hx : a.eval x = v) {l : List UInt8} (h : Bs w v l) (i k : Nat)
    (hlo : lo = none ∧ i = 0 ∨ lo.map a.eval = some (.int .i64 (i : Int))) (hhi : hi = none ∧ k = l.length ∨ hi.map a.eval = some (.int .i64 (k : Int))) (hlk : i ≤ k) (hk : k ≤ l.length)
    (hK : ∀ v', Bs w v' ((l.take k).drop i) → wpList Try.prog ops Q rest (a.put o.dst v') w) : wpList Try.prog ops Q (o :: rest) a w :=
  wpList_slice_rd ei23 hgd x lo hi ho v hx h i k hlo hhi hlk hk fun v' hv' => hK v' (by
    have e : ((l.take k).drop i).length = k - i := by simp; omega
    unfold Bs
    rw [e]
    simpa using hv')
theorem wpList_append_bs {ops : Array Oper} {rest : List Oper} {o : Oper} {a : Act} {w : World} {Q : Exit → Act → World → Prop} (hgd : o.guard = none)
    (s x : Operand) (ho : o.op = .call { callee := .builtin .append, args := #[s, x], argTypes := #[23, 23] }) (v : Value) (hs : a.eval s = v) {l : List UInt8} (hown : OwnB w v l)
    (y : Value) (hx : a.eval x = y) {l' : List UInt8} (hy : Bs w y l') (h63 : l.length + l'.length ≤ 4294967296)
    (hK : ∀ v' w', OwnB w' v' (l ++ l') → Grew w w' v → (v'.ownBlock = v.ownBlock ∨ ∀ g, v'.ownBlock = some g → w.heap.size ≤ g) → wpList Try.prog ops Q rest (a.put o.dst v') w') : wpList Try.prog ops Q (o :: rest) a w :=
  wpList_append_rd ei23 hgd s x ho v hs hown y hx hy (one_bytes l') h63 fun v' w' h1 h2 h3 => hK v' w' (by unfold OwnB; rw [List.length_append, List.map_append]; exact h1) h2 h3
/-- append([]byte(nil), ..): new bytes. -/
theorem wpList_append_nil_bs {ops : Array Oper} {rest : List Oper} {o : Oper} {a : Act} {w : World} {Q : Exit → Act → World → Prop} (hgd : o.guard = none)
    (x : Operand) (ho : o.op = .call { callee := .builtin .append, args := #[.const (.slice none 0 0), x], argTypes := #[23, 23] })
    (y : Value) (hx : a.eval x = y) {l' : List UInt8} (hy : Bs w y l') (h63 : l'.length ≤ 4294967296)
    (hK : ∀ v' w', OwnB w' v' l' → Ext w w' → (∀ g, v'.ownBlock = some g → w.heap.size ≤ g) → wpList Try.prog ops Q rest (a.put o.dst v') w') : wpList Try.prog ops Q (o :: rest) a w :=
  wpList_append_bs hgd _ x ho _ rfl (l := []) (Own.nil w 5 1) y hx hy (by simpa using h63) fun v' w' h1 h2 h3 => hK v' w' h1 (Chg.ext (Chg.of_grew h2) fun k hk => nomatch hk) (h3.elim (fun e g hg => by rw [e] at hg; cases hg) id)
theorem Bs.pos {w : World} {v : Value} {l : List UInt8} (h : Bs w v l) (hn : 0 < l.length) :
    ∃ b o cap, v = .slice (some ⟨b, o, none⟩) l.length cap ∧ l.length ≤ cap ∧ cap ≤ maxLen ∧ b < w.heap.size ∧ ∀ i, i < l.length → w.cell? ⟨b, o + i, none⟩ = some (B8 (l.getD i 0)) := by
  obtain ⟨b, o, cap, h1, h2, h3, h4, h5⟩ := Rd.pos h hn
  exact ⟨b, o, cap, h1, h2, h3, h4, Bs.cell h5⟩

end Go.Proofs.Ytapojpjmeadabaa

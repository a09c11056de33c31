/- Pure, Reg, Num, Mem, Bit, Sched, Take, Slice, Hash, New: several texts in one. -/
import Derived.Deep.Quiet
import Derived.StillTail
import Derived.Below
import Derived.WalkKit
import Derived.Test.YtapojpjmeadabaaRows
import Derived.WalkSpells
import Derived.WalkLawsBesides
import Derived.StillTailTactics
import Derived.Deep.WholeRow
import Derived.BigQuiet
import Derived.Lib.Hide
import Derived.Deep.LoopGhost
import Derived.Deep.DeepCutAuto
import Derived.WalkMore
import Derived.Laws.Rows
import Derived.Laws.Tables
import Derived.Laws.AppendOwnNone
import Derived.OwnWalk
import Derived.Deep.DeepMust
import Derived.Laws.Build
section
/- SHA-256 in plain Lean: words of 32 bits, lists of bytes; the laws of its blocks, its padding. No program, no memory. -/
namespace Go.Proofs.Ytapojpjmeadabaa
namespace Sha
abbrev W := BitVec 32
def rot (x : W) (n : Nat) : W := (x >>> n) ||| (x <<< (32 - n))
structure St where
  a : W
  b : W
  c : W
  d : W
  e : W
  f : W
  g : W
  h : W
def K : List W := [0x428a2f98, 0x71374491, 0xb5c0fbcf, 0xe9b5dba5, 0x3956c25b, 0x59f111f1, 0x923f82a4, 0xab1c5ed5, 0xd807aa98, 0x12835b01, 0x243185be, 0x550c7dc3, 0x72be5d74, 0x80deb1fe, 0x9bdc06a7, 0xc19bf174, 0xe49b69c1, 0xefbe4786, 0x0fc19dc6, 0x240ca1cc, 0x2de92c6f, 0x4a7484aa, 0x5cb0a9dc, 0x76f988da, 0x983e5152, 0xa831c66d, 0xb00327c8, 0xbf597fc7, 0xc6e00bf3, 0xd5a79147, 0x06ca6351, 0x14292967, 0x27b70a85, 0x2e1b2138, 0x4d2c6dfc, 0x53380d13, 0x650a7354, 0x766a0abb, 0x81c2c92e, 0x92722c85, 0xa2bfe8a1, 0xa81a664b, 0xc24b8b70, 0xc76c51a3, 0xd192e819, 0xd6990624, 0xf40e3585, 0x106aa070, 0x19a4c116, 0x1e376c08, 0x2748774c, 0x34b0bcb5, 0x391c0cb3, 0x4ed8aa4a, 0x5b9cca4f, 0x682e6ff3, 0x748f82ee, 0x78a5636f, 0x84c87814, 0x8cc70208, 0x90befffa, 0xa4506ceb, 0xbef9a3f7, 0xc67178f2]
theorem K_length : K.length = 64 := rfl
def init : St := ⟨0x6a09e667, 0xbb67ae85, 0x3c6ef372, 0xa54ff53a, 0x510e527f, 0x9b05688c, 0x1f83d9ab, 0x5be0cd19⟩
def b32 (b : UInt8) : W := BitVec.ofNat 32 b.toNat
def word (b : List UInt8) (i : Nat) : W :=
  (b32 (b.getD (4 * i) 0) <<< 24) ||| (b32 (b.getD (4 * i + 1) 0) <<< 16) ||| (b32 (b.getD (4 * i + 2) 0) <<< 8) ||| b32 (b.getD (4 * i + 3) 0)
def nextW (w16 w15 w7 w2 : W) : W :=
  w16 + (rot w15 7 ^^^ rot w15 18 ^^^ (w15 >>> 3)) + w7 + (rot w2 17 ^^^ rot w2 19 ^^^ (w2 >>> 10))
def nxt (b : List UInt8) (l : List W) (n : Nat) : W :=
  if n < 16 then word b n else nextW (l.getD (n - 16) 0) (l.getD (n - 15) 0) (l.getD (n - 7) 0) (l.getD (n - 2) 0)
/-- the words in order -/
def words (b : List UInt8) : Nat → List W
  | 0 => []
  | n + 1 => words b n ++ [nxt b (words b n) n]
theorem words_length (b : List UInt8) : ∀ n, (words b n).length = n
  | 0 => rfl
  | n + 1 => by simp [words, words_length b n]
theorem words_getD (b : List UInt8) (i : Nat) : ∀ n, i < n → (words b n).getD i 0 = nxt b (words b i) i
  | 0, h => by omega
  | n + 1, h => by
    by_cases e : i = n
    · subst e
      simp [words, List.getD, words_length]
    · have := words_getD b i n (by omega)
      rw [← this]
      simp only [words, List.getD]
      rw [List.getElem?_append_left (by rw [words_length]; omega)]
theorem words_stable (b : List UInt8) (i n m : Nat) (h : i < n) (h' : i < m) : (words b n).getD i 0 = (words b m).getD i 0 := by
  rw [words_getD b i n h, words_getD b i m h']
/-- one round -/
def t1 (s : St) (k w : W) : W := s.h + (rot s.e 6 ^^^ rot s.e 11 ^^^ rot s.e 25) + ((s.e &&& s.f) ^^^ (~~~ s.e &&& s.g)) + k + w
def t2 (s : St) : W := (rot s.a 2 ^^^ rot s.a 13 ^^^ rot s.a 22) + ((s.a &&& s.b) ^^^ (s.a &&& s.c) ^^^ (s.b &&& s.c))
def round (s : St) (k w : W) : St := ⟨t1 s k w + t2 s, s.a, s.b, s.c, s.d + t1 s k w, s.e, s.f, s.g⟩
def rounds (s : St) (w : List W) : Nat → St
  | 0 => s
  | n + 1 => round (rounds s w n) (K.getD n 0) (w.getD n 0)
def St.add (s x : St) : St := ⟨s.a + x.a, s.b + x.b, s.c + x.c, s.d + x.d, s.e + x.e, s.f + x.f, s.g + x.g, s.h + x.h⟩
def block (s : St) (b : List UInt8) : St := s.add (rounds s (words b 64) 64)
def foldN : Nat → St → List UInt8 → St
  | 0, s, _ => s
  | n + 1, s, m => foldN n (block s (m.take 64)) (m.drop 64)
theorem foldN_snoc : ∀ (n : Nat) (s : St) (p b : List UInt8), p.length = 64 * n → b.length = 64 → foldN (n + 1) s (p ++ b) = block (foldN n s p) b
  | 0, s, p, b, hp, hb => by
    have : p = [] := List.eq_nil_of_length_eq_zero (by omega)
    subst this
    simp [foldN, List.take_of_length_le (show b.length ≤ 64 by omega)]
  | n + 1, s, p, b, hp, hb => by
    show foldN (n + 1) (block s ((p ++ b).take 64)) ((p ++ b).drop 64) = _
    rw [List.take_append_of_le_length (by omega), List.drop_append_of_le_length (by omega)]
    exact foldN_snoc n _ _ b (by simp; omega) hb
def bytes4 (x : W) : List UInt8 := [UInt8.ofNat (x.toNat / 16777216), UInt8.ofNat (x.toNat / 65536), UInt8.ofNat (x.toNat / 256), UInt8.ofNat x.toNat]
def St.toList (s : St) : List W := [s.a, s.b, s.c, s.d, s.e, s.f, s.g, s.h]
def out (s : St) : List UInt8 := s.toList.flatMap bytes4
theorem out_length (s : St) : (out s).length = 32 := rfl
def bytes8 (n : Nat) : List UInt8 := [UInt8.ofNat (n / 72057594037927936), UInt8.ofNat (n / 281474976710656), UInt8.ofNat (n / 1099511627776), UInt8.ofNat (n / 4294967296), UInt8.ofNat (n / 16777216), UInt8.ofNat (n / 65536), UInt8.ofNat (n / 256), UInt8.ofNat n]
def padZ (n : Nat) : Nat := (119 - n % 64) % 64
def zeros (n : Nat) : List UInt8 := List.replicate n 0
def padded (m : List UInt8) : List UInt8 := m ++ [0x80] ++ zeros (padZ m.length) ++ bytes8 (8 * m.length)
theorem padded_length (m : List UInt8) : (padded m).length = m.length + 9 + padZ m.length := by simp [padded, bytes8, zeros]; omega
theorem padded_mod (m : List UInt8) : (padded m).length % 64 = 0 := by rw [padded_length]; unfold padZ; omega
def sum (m : List UInt8) : List UInt8 := out (foldN ((padded m).length / 64) init (padded m))
theorem sum_length (m : List UInt8) : (sum m).length = 32 := rfl
theorem sum_abc : sum [97, 98, 99] = [0xba, 0x78, 0x16, 0xbf, 0x8f, 0x01, 0xcf, 0xea, 0x41, 0x41, 0x40, 0xde, 0x5d, 0xae, 0x22, 0x23, 0xb0, 0x03, 0x61, 0xa3, 0x96, 0x17, 0x7a, 0x9c, 0xb4, 0x10, 0xff, 0x61, 0xf2, 0x00, 0x15, 0xad] := by decide +kernel
/-- HMAC -/
def keyOf (key : List UInt8) : List UInt8 := if key.length > 64 then sum key else key
def pad (key : List UInt8) (c : UInt8) : List UInt8 := (key ++ zeros (64 - key.length)).map (· ^^^ c)
def tag (key m : List UInt8) : List UInt8 := sum (pad (keyOf key) 0x5c ++ sum (pad (keyOf key) 0x36 ++ m))
theorem tag_length (key m : List UInt8) : (tag key m).length = 32 := rfl
end Sha
end Go.Proofs.Ytapojpjmeadabaa
end

section
/- A region that draws its order: one walk of the text's order serves every order, also where operations make memory: each operation's slot gets either one fixed value or a predicate that no later making of memory spoils. Conditions: what the Bool 'Region.lexB' asks of the region. -/
namespace Go.Proofs.Ytapojpjmeadabaa
open Go.RowKit

/-- w' is w, but for new blocks and draws. -/
def Ext (w w' : World) : Prop := Below w.heap.size w w'
theorem Ext.refl (w : World) : Ext w w := Below.refl _ _
theorem Ext.trans {a b c : World} (h : Ext a b) (k : Ext b c) : Ext a c := Below.trans h (k.mono h.size)
theorem Ext.drew {a b : World} (h : Ext a b) : Ext a b.drew := Below.drew h
theorem Ext.alloc {a b : World} (h : Ext a b) (o : Obj) : Ext a (b.alloc o) := Below.alloc h h.size o
theorem Ext.block {a b : World} (h : Ext a b) {k : Nat} (hk : k < a.heap.size) : b.heap[k]? = a.heap[k]? := Below.block h k hk

/-- What is known of a slot. -/
inductive Sl where
  | v (x : Value)
  | p (R : Value → World → Prop)
def Sl.holds : Sl → Value → World → Prop
  | .v x, u, _ => u = x
  | .p R, u, w => R u w
/-- A class of worlds, and a relation between worlds that an operation may lead along. -/
structure Cls where
  C : World → Prop
  E : World → World → Prop
  refl : ∀ w, E w w
  trans : ∀ a b c, E a b → E b c → E a c
/-- The worlds that have only grown out of w0. -/
def Cls.grown (w0 : World) : Cls := ⟨Ext w0, Ext, Ext.refl, fun _ _ _ => Ext.trans⟩
/-- The worlds of a class; nothing is kept from world to world. -/
def Cls.quiet (C : World → Prop) : Cls := ⟨C, fun _ _ => True, fun _ => trivial, fun _ _ _ _ _ => trivial⟩
def Sl.stable (c : Cls) (s : Sl) : Prop := ∀ u w w', c.E w w' → s.holds u w → s.holds u w'
theorem Sl.stable_v (c : Cls) (x : Value) : (Sl.v x).stable c := fun _ _ _ _ h => h

def fillFrom (xs : Nat → Value) : Nat → List Sl → List Value
  | _, [] => []
  | k, .v x :: r => x :: fillFrom xs (k + 1) r
  | k, .p _ :: r => xs k :: fillFrom xs (k + 1) r
def fillA (xs : Nat → Value) (env : List Sl) (ds : List Deferred) : Act := ⟨(fillFrom xs 0 env).toArray, ds⟩
def envPut (env : List Sl) (dst : Option Tmp) (s : Sl) : List Sl := match dst with | some d => env.set d s | none => env

theorem fillFrom_length (xs : Nat → Value) : ∀ (k : Nat) (env : List Sl), (fillFrom xs k env).length = env.length
  | _, [] => rfl
  | k, .v x :: r => by simp [fillFrom, fillFrom_length xs (k + 1) r]
  | k, .p _ :: r => by simp [fillFrom, fillFrom_length xs (k + 1) r]

def Sl.at (s : Sl) (x : Value) : Value := match s with | .v y => y | .p _ => x

theorem fillFrom_get (xs : Nat → Value) : ∀ (k : Nat) (env : List Sl) (t : Nat), (fillFrom xs k env)[t]? = (env[t]?).map fun s => s.at (xs (k + t))
  | _, [], t => by simp [fillFrom]
  | k, .v x :: r, 0 => by simp [fillFrom, Sl.at]
  | k, .p _ :: r, 0 => by simp [fillFrom, Sl.at]
  | k, .v x :: r, t + 1 => by simp only [fillFrom, List.getElem?_cons_succ]; rw [fillFrom_get xs (k + 1) r t, show k + 1 + t = k + (t + 1) by omega]
  | k, .p _ :: r, t + 1 => by simp only [fillFrom, List.getElem?_cons_succ]; rw [fillFrom_get xs (k + 1) r t, show k + 1 + t = k + (t + 1) by omega]

theorem fillA_put (xs : Nat → Value) (env : List Sl) (ds : List Deferred) (dst : Option Tmp) (s : Sl) :
    fillA xs (envPut env dst s) ds = (fillA xs env ds).put dst (match dst with | some d => s.at (xs d) | none => undef) := by
  cases dst with
  | none => rfl
  | some d =>
    simp only [fillA, envPut, Act.put, List.setIfInBounds_toArray, Act.mk.injEq, and_true]
    congr 1
    apply List.ext_getElem?
    intro t
    rw [fillFrom_get, List.getElem?_set, List.getElem?_set, fillFrom_length, fillFrom_get]
    by_cases hd : d = t
    · subst hd; simp only [if_true, Nat.zero_add]
      by_cases hl : d < env.length <;> simp [hl]
    · simp [hd]

/-- What one operation has to do, carried out in the frame 'a' and the world 'w'. -/
def gUpon (P : Program) (c : Cls) (w : World) (s : Sl) : Result Next → Prop
  | .ok (.value u) w' => s.holds u w' ∧ c.E w w' ∧ c.C w'
  | .ok .skip w' => s.holds undef w' ∧ c.E w w' ∧ c.C w'
  | .ok (.enter f args) w' => c.E w w' ∧ Calls P f args w' (fun e w'' => ∃ u, e = .returned u ∧ s.holds u w'' ∧ c.E w' w'' ∧ c.C w'')
  | _ => False
def gStep (P : Program) (c : Cls) (ops : Array Oper) (o : Oper) (a : Act) (w : World) (s : Sl) : Prop :=
  if Region.wanted o (yielded ops a.tmps) then gUpon P c w s ((execOp a.eval o).run P w) else s.holds undef w

section
variable {P : Program} {ops : Array Oper} {md : Region.Mode} {c : Cls} {ds : List Deferred}

/-- What is known of the slots that an operation looks at. -/
def Known (ops : Array Oper) (o : Oper) (env : List Sl) (xs : Nat → Value) (w : World) : Prop :=
  ∀ t ∈ o.looksAt ops, ∀ R, env[t]? = some (.p R) → R (xs t) w
def gYields (P : Program) (ops : Array Oper) (c : Cls) (ds : List Deferred) (o : Oper) (s : Sl) (env : List Sl) : Prop :=
  s.stable c ∧ ∀ xs w, c.C w → Known ops o env xs w → gStep P c ops o (fillA xs env ds) w s
def gOper (P : Program) (ops : Array Oper) (c : Cls) (ds : List Deferred) (o : Oper) (env : List Sl) (K : List Sl → Prop) : Prop :=
  ∃ s, gYields P ops c ds o s env ∧ K (envPut env o.dst s)
def wpG (P : Program) (ops : Array Oper) (c : Cls) (ds : List Deferred) (Q : List Sl → Prop) : List Oper → List Sl → Prop
  | [], env => Q env
  | o :: rest, env => gOper P ops c ds o env (wpG P ops c ds Q rest)
def gOp (P : Program) (ops : Array Oper) (c : Cls) (ds : List Deferred) (i : Nat) (K : List Sl → Prop) (env : List Sl) : Prop :=
  match ops[i]? with
  | none => K env
  | some o => gOper P ops c ds o env K
def wpAnyG (P : Program) (md : Region.Mode) (ops : Array Oper) (c : Cls) (ds : List Deferred) (L : Array Bool → List Sl → Prop) (n : Nat) : Nat → Array Bool → List Sl → Prop
  | 0, listed, env => L listed env
  | fuel + 1, listed, env =>
    Region.ready md ops listed ≠ [] ∧ ∀ i ∈ Region.ready md ops listed, i < n ∧ gOp P ops c ds i (wpAnyG P md ops c ds L n fuel (listed.setIfInBounds i true)) env

theorem gOp_mono {i : Nat} {env : List Sl} {K K' : List Sl → Prop} (h : ∀ e, K e → K' e) (hh : gOp P ops c ds i K env) : gOp P ops c ds i K' env := by
  unfold gOp at *
  split
  · rename_i ho; simp only [ho] at hh; exact h _ hh
  · rename_i o ho; simp only [ho] at hh; obtain ⟨s, h1, h2⟩ := hh; exact ⟨s, h1, h _ h2⟩

/-- The frame 'a' is one of those that 'env' tells. -/
structure Fits (c : Cls) (ds : List Deferred) (env : List Sl) (a : Act) (w : World) : Prop where
  ext : c.C w
  stable : ∀ s ∈ env, s.stable c
  ds : a.defers = ds
  size : a.tmps.size = env.length
  has : ∀ (t : Nat) (s : Sl), env[t]? = some s → Sl.holds s (a.tmps.getD t undef) w

theorem Fits.fill {env : List Sl} {a : Act} {w : World} (h : Fits c ds env a w) : a = fillA (fun t => a.tmps.getD t undef) env ds := by
  obtain ⟨tmps, defers⟩ := a
  have hd := h.ds
  simp only at hd
  subst hd
  simp only [fillA, Act.mk.injEq, and_true]
  apply Array.ext_getElem?
  intro t
  have hs := h.size
  simp only at hs
  rw [show (fillFrom (fun t => tmps.getD t undef) 0 env).toArray[t]? = (fillFrom (fun t => tmps.getD t undef) 0 env)[t]? from List.getElem?_toArray, fillFrom_get]
  by_cases ht : t < env.length
  · have hh := h.has t env[t] (by simp [ht])
    simp only [ht, List.getElem?_eq_getElem, Option.map_some, Nat.zero_add]
    have e1 : tmps[t]? = some (tmps.getD t undef) := by simp [hs, ht]
    rw [e1]
    congr 1
    cases hE : env[t] with
    | v x => rw [hE] at hh; simpa [Sl.at, Sl.holds] using hh
    | p R => simp [Sl.at]
  · simp [hs, ht]

theorem Fits.known {env : List Sl} {a : Act} {w : World} (h : Fits c ds env a w) (o : Oper) : Known ops o env (fun t => a.tmps.getD t undef) w :=
  fun t _ _ hR => h.has t _ hR

theorem Fits.put {env : List Sl} {a : Act} {w w' : World} (h : Fits c ds env a w) (hx : c.E w w') (hC : c.C w') {s : Sl} (hs : s.stable c) (dst : Option Tmp) {u : Value} (hu : s.holds u w') :
    Fits c ds (envPut env dst s) (a.put dst u) w' := by
  cases dst with
  | none => exact ⟨hC, h.stable, h.ds, h.size, fun t s' hs' => h.stable s' (List.mem_of_getElem? hs') _ _ _ hx (h.has t s' hs')⟩
  | some d =>
    refine ⟨hC, fun s' hs' => ?_, h.ds, by simp [envPut, Act.put, h.size], fun t s' hs' => ?_⟩
    · rcases List.mem_or_eq_of_mem_set hs' with h1 | h1
      · exact h.stable _ h1
      · exact h1 ▸ hs
    · simp only [envPut, List.getElem?_set] at hs'
      by_cases hd : d = t
      · subst hd
        by_cases hl : d < env.length
        · simp only [if_true, hl, Option.some.injEq] at hs'
          subst hs'
          simpa [Act.put, h.size, hl] using hu
        · simp [hl] at hs'
      · rw [if_neg hd] at hs'
        have := h.stable s' (List.mem_of_getElem? hs') _ _ _ hx (h.has t s' hs')
        simpa [Act.put, hd] using this

/-- One operation, for real. -/
theorem wpOp_of_gOp {i : Nat} {env : List Sl} {a : Act} {w : World} {K : List Sl → Prop} {K' : Act → World → Prop} {Q' : Exit → Act → World → Prop} (hf : Fits c ds env a w)
    (h : ∀ env' a' w', Fits c ds env' a' w' → K env' → K' a' w') (hh : gOp P ops c ds i K env) : wpOp P ops Q' i K' a w := by
  unfold gOp at hh
  unfold wpOp
  split
  · rename_i ho; simp only [ho] at hh; exact h _ _ _ hf hh
  · rename_i o ho
    simp only [ho] at hh
    obtain ⟨s, ⟨hst, hy⟩, hK⟩ := hh
    have h1 := hy _ w hf.ext (hf.known o)
    rw [← hf.fill] at h1
    unfold gStep at h1
    split
    · rename_i hw
      rw [if_pos hw] at h1
      left
      unfold Oper.wp
      generalize (execOp a.eval o).run P w = r at *
      cases r with
      | ok n w' =>
        cases n <;> simp only [gUpon] at h1 <;> simp only [Oper.upon]
        case value u => exact h _ _ _ (hf.put h1.2.1 h1.2.2 hst o.dst h1.1) hK
        case skip => exact h _ _ _ (hf.put h1.2.1 h1.2.2 hst o.dst h1.1) hK
        case enter f args =>
          obtain ⟨hx, hc⟩ := h1
          refine hc.mono fun e w'' ⟨u, he, hu, hx', hC'⟩ => ?_
          subst he
          exact h _ _ _ (hf.put (c.trans _ _ _ hx hx') hC' hst o.dst hu) hK
      | halt x w' => simp only [gUpon] at h1
    · rename_i hw
      rw [if_neg hw] at h1
      exact h _ _ _ (hf.put (c.refl w) hf.ext hst o.dst h1) hK

theorem envPut_comm (env : List Sl) {x y : Option Tmp} (s t : Sl) (h : ∀ d, x = some d → y ≠ some d) : envPut (envPut env x s) y t = envPut (envPut env y t) x s := by
  cases x with
  | none => rfl
  | some d =>
    cases y with
    | none => rfl
    | some e =>
      have hne : d ≠ e := fun he => h d rfl (he ▸ rfl)
      simp only [envPut]
      exact List.set_comm _ _ hne

theorem Known.put {o : Oper} {env : List Sl} {dst : Option Tmp} {s : Sl} {xs : Nat → Value} {w : World} (hd : ∀ d, dst = some d → d ∉ o.looksAt ops) :
    Known ops o (envPut env dst s) xs w ↔ Known ops o env xs w := by
  cases dst with
  | none => exact Iff.rfl
  | some d =>
    have hd' := hd d rfl
    constructor
    · intro h t ht R hR
      exact h t ht R (by simp only [envPut, List.getElem?_set]; rw [if_neg (fun e : d = t => hd' (e ▸ ht))]; exact hR)
    · intro h t ht R hR
      simp only [envPut, List.getElem?_set] at hR
      rw [if_neg (fun e : d = t => hd' (e ▸ ht))] at hR
      exact h t ht R hR

theorem gYields_put {o : Oper} (hsel : ∀ cs b, o.op ≠ .select cs b) {s s' : Sl} {env : List Sl} {dst : Option Tmp} (hd : ∀ d, dst = some d → d ∉ o.looksAt ops) :
    gYields P ops c ds o s (envPut env dst s') ↔ gYields P ops c ds o s env := by
  unfold gYields
  refine and_congr Iff.rfl ?_
  have hstep : ∀ xs w, gStep P c ops o (fillA xs (envPut env dst s') ds) w s ↔ gStep P c ops o (fillA xs env ds) w s := by
    intro xs w
    rw [fillA_put]
    unfold gStep
    rw [wanted_put o _ dst _ hd, execOp_put o hsel _ dst _ hd]
  constructor
  · intro h xs w hx hk
    exact (hstep xs w).1 (h xs w hx ((Known.put hd).2 hk))
  · intro h xs w hx hk
    exact (hstep xs w).2 (h xs w hx ((Known.put hd).1 hk))

theorem gOp_put {j : Nat} {oi oj : Oper} {s : Sl} (hj : ops[j]? = some oj) (hap : oi.apart ops oj = true)
    (hsi : ∀ cs b, oi.op ≠ .select cs b) (hsj : ∀ cs b, oj.op ≠ .select cs b) {K : List Sl → Prop} {env : List Sl}
    (hy : gYields P ops c ds oi s env) (h : gOp P ops c ds j K (envPut env oi.dst s)) :
    gOp P ops c ds j (fun e => gYields P ops c ds oi s e ∧ K (envPut e oi.dst s)) env := by
  obtain ⟨h1, h2, h3⟩ := Oper.apart_spec hap
  unfold gOp at *
  simp only [hj] at *
  obtain ⟨t, ht, hK⟩ := h
  exact ⟨t, (gYields_put hsj h1).1 ht, (gYields_put hsi h3).2 hy, by rw [← envPut_comm env s t h2]; exact hK⟩

theorem gYields.gOp {i : Nat} {o : Oper} {s : Sl} {env : List Sl} (hi : ops[i]? = some o) (hy : gYields P ops c ds o s env) {K : List Sl → Prop} (h : K (envPut env o.dst s)) : gOp P ops c ds i K env := by
  unfold Go.Proofs.Ytapojpjmeadabaa.gOp
  simp only [hi]
  exact ⟨s, hy, h⟩

theorem wpAnyG_first {n i : Nat} {oi : Oper} {s : Sl} {L : Array Bool → List Sl → Prop} (hi : ops[i]? = some oi) (hsel : ∀ (j : Nat) (o : Oper) cs b, ops[j]? = some o → o.op ≠ .select cs b)
    (hlt : ∀ listed, HeadInv md ops n listed → ∀ k, k < n → listed.getD k true = false → ∀ t ∈ Region.ready md ops listed, t < n) (hin : i < n)
    (hdone : ∀ listed e, L listed e → ∀ j ∈ Region.ready md ops listed, n ≤ j) :
    ∀ (f : Nat) (listed : Array Bool) (env : List Sl), HeadInv md ops n listed →
      (∀ j oj, ops[j]? = some oj → j ≠ i → listed.getD j true = false → (∀ e ∈ oj.after, Region.binds md e = true → e.on ≠ i) → oi.apart ops oj = true) →
      i ∈ Region.ready md ops listed → gYields P ops c ds oi s env →
      wpAnyG P md ops c ds L n f (listed.setIfInBounds i true) (envPut env oi.dst s) → wpAnyG P md ops c ds L n (f + 1) listed env := by
  intro f
  induction f with
  | zero =>
    intro listed env inv _ hr hy H
    have hun := (mem_ready.1 hr).1
    refine ⟨fun h => (by rw [h] at hr; cases hr), fun j hj => ?_⟩
    have hjn := hlt listed inv i hin hun j hj
    refine ⟨hjn, ?_⟩
    by_cases hji : j = i
    · subst hji; exact hy.gOp hi H
    · have := hdone _ _ H j (ready_mono hj hji)
      omega
  | succ f ih =>
    intro listed env inv hfree hr hy H
    have hun := (mem_ready.1 hr).1
    refine ⟨fun h => (by rw [h] at hr; cases hr), fun j hj => ?_⟩
    have hjn := hlt listed inv i hin hun j hj
    refine ⟨hjn, ?_⟩
    by_cases hji : j = i
    · subst hji; exact hy.gOp hi H
    · have h1 := (H.2 j (ready_mono hj hji)).2
      obtain ⟨hjun, oj, hoj, hall⟩ := mem_ready.1 hj
      have hnot : ∀ e ∈ oj.after, Region.binds md e = true → e.on ≠ i := fun e he hb heq => by
        have h1 := hall e he hb
        rw [heq, getD_both hun] at h1
        cases h1
      have h2 := gOp_put hoj (hfree j oj hoj hji hjun hnot) (fun cs b => hsel i oi cs b hi) (fun cs b => hsel j oj cs b hoj) hy h1
      have hfree' : ∀ k ok, ops[k]? = some ok → k ≠ i → (listed.setIfInBounds j true).getD k true = false →
          (∀ e ∈ ok.after, Region.binds md e = true → e.on ≠ i) → oi.apart ops ok = true := fun k ok hk hki hun hno => by
        refine hfree k ok hk hki ?_ hno
        by_cases hjk : j = k
        · subst hjk; exact hjun
        · rw [getD_set_ne true hjk] at hun; exact hun
      refine gOp_mono (fun a' h3 => ih (listed.setIfInBounds j true) a' (inv.set hj hjn) hfree' (ready_mono hr (Ne.symm hji)) h3.1 ?_) h2
      rw [Array.setIfInBounds_comm _ _ hji]
      exact h3.2

theorem wpAnyG_lex {n : Nat} {L : Array Bool → List Sl → Prop} {Lq : List Sl → Prop} (hs : Region.noSelect ops = true)
    (hlt : ∀ listed, HeadInv md ops n listed → ∀ k, k < n → listed.getD k true = false → ∀ t ∈ Region.ready md ops listed, t < n)
    (B : Nat → Nat → Array Bool → Bool) (hB0 : ∀ k listed, B 0 k listed = true → ∀ e, Lq e → L listed e) (hB1 : ∀ listed e, L listed e → ∀ j ∈ Region.ready md ops listed, n ≤ j)
    (hBs : ∀ f k listed, B (f + 1) k listed = true → ((Region.ready md ops listed).contains k = true ∧ Region.free md ops listed k = true) ∧ B f (k + 1) (listed.setIfInBounds k true) = true) :
    ∀ (l : List Oper) (k : Nat) (listed : Array Bool) (env : List Sl), (∀ j, j < l.length → l[j]? = ops[k + j]?) → k + l.length = n → HeadInv md ops n listed →
    B l.length k listed = true → wpG P ops c ds Lq l env → wpAnyG P md ops c ds L n l.length listed env
  | [], k, listed, env, _, _, _, hB, h => hB0 k listed hB env h
  | o :: l, k, listed, env, hl, hk, inv, hB, h => by
    have h0 : ops[k]? = some o := by simpa using (hl 0 (by simp)).symm
    obtain ⟨⟨hr, hf⟩, hB'⟩ := hBs _ _ _ hB
    have hkn : k < n := by simp only [List.length_cons] at hk; omega
    have hr' : k ∈ Region.ready md ops listed := by simpa using hr
    obtain ⟨s, hy, hK⟩ := h
    exact wpAnyG_first h0 (Region.noSelect_spec hs) hlt hkn hB1 l.length listed env inv (Region.free_spec h0 hf) hr' hy
      (wpAnyG_lex hs hlt B hB0 hB1 hBs l (k + 1) _ _ (fun j hj => by have := hl (j + 1) (by simp; omega); simpa [Nat.add_assoc, Nat.add_comm 1 j] using this)
        (by simp only [List.length_cons] at hk; omega) (inv.set hr' hkn) hB' hK)

theorem wpAny_of_G {n g : Nat} {L : Array Bool → List Sl → Prop} {Q' : Exit → Act → World → Prop} (hL : ∀ listed env a w, L listed env → Fits c ds env a w → wpAny P md ops Q' g listed a w) :
    ∀ (f : Nat) (listed : Array Bool) (env : List Sl) (a : Act) (w : World), Fits c ds env a w → wpAnyG P md ops c ds L n f listed env → wpAny P md ops Q' (f + g) listed a w
  | 0, listed, env, a, w, hf, h => by rw [Nat.zero_add]; exact hL _ _ _ _ h hf
  | f + 1, listed, env, a, w, hf, h => by
    rw [show f + 1 + g = (f + g) + 1 by omega]
    exact ⟨fun h0 => absurd h0 h.1, fun i hi => wpOp_of_gOp hf (fun env' a' w' hf' h' => wpAny_of_G hL f _ env' a' w' hf' h') (h.2 i hi).2⟩

theorem Fits.start (a : Act) (w : World) (hC : c.C w) : Fits c a.defers (a.tmps.toList.map .v) a w :=
  ⟨hC, fun s hs => by obtain ⟨x, _, rfl⟩ := List.mem_map.1 hs; exact Sl.stable_v c x, rfl, by simp, fun t s hs => by
    simp only [List.getElem?_map] at hs
    cases ht : a.tmps.toList[t]? with
    | none => rw [ht] at hs; cases hs
    | some x =>
      rw [ht] at hs
      simp only [Option.map_some, Option.some.injEq] at hs
      subst hs
      have : a.tmps[t]? = some x := by simpa using ht
      simp [Sl.holds, this]⟩

/-- What is asked behind the region: of whatever the slots came to. -/
def gPost (c : Cls) (ds : List Deferred) (K : Act → World → Prop) (env : List Sl) : Prop :=
  ∀ (xs : Nat → Value) (w : World), c.C w → (∀ (t : Nat) (R : Value → World → Prop), env[t]? = some (Sl.p R) → R (xs t) w) → K (fillA xs env ds) w

theorem gPost.of {K : Act → World → Prop} {env : List Sl} {a : Act} {w : World} (h : gPost c ds K env) (hf : Fits c ds env a w) : K a w := by
  rw [hf.fill]
  exact h _ w hf.ext (fun t R hR => hf.has t _ hR)

/-- **A WHOLE REGION.** -/
theorem wp_region_c {id : Nat} {Q : Exit → Act → World → Prop} {a : Act} {w : World} {l : List Oper} (c : Cls) (hC : c.C w.drew) (hm : P.follows .mixedOrders = true) (hB : Region.lexB .any l.toArray = true)
    (h : wpG P l.toArray c a.defers (gPost c a.defers (fun a' w' => Q .normal a' w')) l (a.tmps.toList.map .v)) : (Code.region id l.toArray true).wp P Q a w := by
  simp only [Region.lexB, Bool.and_eq_true] at hB
  refine wp_region_any hm ?_
  have inv0 : HeadInv .any l.toArray l.length (Array.replicate l.toArray.size false) :=
    ⟨by simp, fun j oj _ hl => (by rw [getD_replicate_false] at hl; cases hl), fun t ht ht' => by simp at ht'; omega⟩
  have H := wpAnyG_lex (md := .any) (P := P) (c := c) (ds := a.defers) (n := l.length) (ops := l.toArray)
    (L := fun listed env => Region.ready .any l.toArray listed = [] ∧ gPost c a.defers (fun a' w' => Q .normal a' w') env) hB.1
    (fun listed _ _ _ _ t ht => by
      obtain ⟨_, o, ho, _⟩ := mem_ready.1 ht
      have := (Array.getElem?_eq_some_iff.1 ho).1
      simpa using this)
    (Region.lexFrom .any l.toArray) (fun k listed hb e he => ⟨by simpa [Region.lexFrom] using hb, he⟩)
    (fun listed e hL j hj => by rw [hL.1] at hj; cases hj)
    (fun f k listed hb => by simpa [Region.lexFrom, Bool.and_eq_true] using hb)
    l 0 (Array.replicate l.toArray.size false) (a.tmps.toList.map .v) (by simp) (by simp) inv0 (by simpa using hB.2) h
  have := wpAny_of_G (Q' := Q) (g := 0) (fun listed env a' w' hL hf => ⟨hL.1, hL.2.of hf⟩) _ _ _ a w.drew (Fits.start a w.drew hC) H
  simpa using this

/-- **A REGION WHOSE LAST OPERATIONS STAND BEHIND ALL OTHERS, ONE BEHIND THE OTHER**: these are walked as they stand. -/
theorem wp_region_ct {id : Nat} {Q : Exit → Act → World → Prop} {a : Act} {w : World} {l : List Oper} (n : Nat) (c : Cls) (hC : c.C w.drew) (hm : P.follows .mixedOrders = true) (hB : Region.lexTailB .any l.toArray n = true)
    (h : wpG P l.toArray c a.defers (gPost c a.defers (fun a' w' => wpList P l.toArray Q (l.drop n) a' w')) (l.take n) (a.tmps.toList.map .v)) : (Code.region id l.toArray true).wp P Q a w := by
  simp only [Region.lexTailB, Bool.and_eq_true, decide_eq_true_eq] at hB
  obtain ⟨⟨⟨⟨hsel, hn⟩, hs⟩, hc⟩, hlex⟩ := hB
  have hn' : n < l.length := by simpa using hn
  have htl : (l.take n).length = n := by simp; omega
  have hdl : (l.drop n).length = l.toArray.size - n := by simp
  refine wp_region_any hm ?_
  have inv0 : HeadInv .any l.toArray n (Array.replicate l.toArray.size false) :=
    ⟨by simp, fun j oj _ hl => (by rw [getD_replicate_false] at hl; cases hl), fun t _ ht => getD_in (by simpa using ht) (getD_replicate_false _ _)⟩
  have H := wpAnyG_lex (md := .any) (P := P) (c := c) (ds := a.defers) (n := n) (ops := l.toArray)
    (L := fun listed env => Region.seqB .any l.toArray (l.toArray.size - n) n listed = true ∧ gPost c a.defers (fun a' w' => wpList P l.toArray Q (l.drop n) a' w') env) hsel
    (fun listed inv k hk hun t ht => by
      rcases Nat.lt_or_ge t n with h' | h'
      · exact h'
      · exact absurd ht (tail_waits hs hc (by simpa using hn) inv _ k rfl hk hun t h'))
    (fun f k listed => decide (k + f = n) && Region.lexHead .any l.toArray (l.toArray.size - n) f k listed)
    (fun k listed hb e he => by
      simp only [Nat.add_zero, Region.lexHead, Bool.and_eq_true, decide_eq_true_eq] at hb
      obtain ⟨rfl, hb⟩ := hb
      exact ⟨hb, he⟩)
    (fun listed e hL => seqB_ready hL.1)
    (fun f k listed hb => by
      simp only [Region.lexHead, Bool.and_eq_true, decide_eq_true_eq] at hb ⊢
      exact ⟨hb.2.1, by omega, hb.2.2⟩)
    (l.take n) 0 (Array.replicate l.toArray.size false) (a.tmps.toList.map .v)
    (fun j hj => by
      have hj' : j < n := by rw [htl] at hj; exact hj
      simp [hj']) (by simpa using htl) inv0 (by rw [htl]; simp only [Nat.zero_add, decide_true, Bool.true_and]; exact hlex) h
  have := wpAny_of_G (Q' := Q) (g := l.toArray.size - n) (fun listed env a' w' hL hf => by
    have h2 := hL.2.of hf
    have := wpAny_of_seq (md := .any) (Q' := Q) (l.drop n) n listed a' w' (fun j => by simp [List.getElem?_drop]) (by rw [hdl]; exact hL.1) h2
    rwa [hdl] at this) _ _ _ a w.drew (Fits.start a w.drew hC) H
  rw [htl, show n + (l.toArray.size - n) = l.toArray.size by omega] at this
  exact this

theorem fillFrom_v (xs : Nat → Value) : ∀ (k : Nat) (l : List Value), fillFrom xs k (l.map .v) = l
  | _, [] => rfl
  | k, x :: l => by simp only [List.map_cons, fillFrom, fillFrom_v xs (k + 1) l]

/-- In a region whose values hang on nothing that the others make, the walk of Derived/Deep/Quiet.lean is one of these. -/
theorem wpG_of_quiet {C : World → Prop} {Qa : Act → Prop} {QG : List Sl → Prop} (hQ : ∀ a', a'.defers = ds → Qa a' → QG (a'.tmps.toList.map .v)) :
    ∀ (l : List Oper) (a : Act), a.defers = ds → wpQuiet P ops C Qa l a → wpG P ops (Cls.quiet C) ds QG l (a.tmps.toList.map .v)
  | [], a, hd, h => hQ a hd h
  | o :: l, a, hd, h => by
    have hfill : ∀ xs, fillA xs (a.tmps.toList.map .v) ds = a := by
      intro xs
      subst hd
      simp only [fillA, fillFrom_v, Array.toArray_toList]
    have hput : ∀ v, envPut (a.tmps.toList.map .v) o.dst (.v v) = (a.put o.dst v).tmps.toList.map .v := by
      intro v
      cases o.dst with
      | none => rfl
      | some d => simp [envPut, Act.put, List.map_set]
    have hdp : ∀ v, (a.put o.dst v).defers = ds := by intro v; cases o.dst <;> exact hd
    unfold wpQuiet at h
    by_cases hw : Region.wanted o (yielded ops a.tmps) = true
    · rw [if_pos hw] at h
      obtain ⟨v, h1, h2⟩ := h
      refine ⟨.v v, ⟨Sl.stable_v _ v, fun xs w hC _ => ?_⟩, ?_⟩
      · rw [hfill]
        unfold gStep
        rw [if_pos hw]
        have h3 := h1 w hC
        unfold Oper.quietAt at h3
        generalize (execOp a.eval o).run P w = r at *
        cases r with
        | ok n w' =>
          cases n <;> simp only [Oper.quietUpon] at h3 <;> simp only [gUpon]
          case value u => obtain ⟨rfl, rfl⟩ := h3; exact ⟨rfl, trivial, hC⟩
          case skip => obtain ⟨rfl, rfl⟩ := h3; exact ⟨rfl, trivial, hC⟩
          case enter f args => obtain ⟨rfl, hc⟩ := h3; exact ⟨trivial, hc.mono fun e w'' ⟨he, hw''⟩ => ⟨v, he, rfl, trivial, hw''⟩⟩
        | halt x w' => simp only [Oper.quietUpon] at h3
      · rw [hput]
        exact wpG_of_quiet hQ l _ (hdp v) h2
    · rw [if_neg hw] at h
      refine ⟨.v undef, ⟨Sl.stable_v _ _, fun xs w hC _ => ?_⟩, ?_⟩
      · rw [hfill]
        unfold gStep
        rw [if_neg hw]
        rfl
      · rw [hput]
        exact wpG_of_quiet hQ l _ (hdp undef) h

/-- **A region whose values are the same in every world of a class, and whose last operations stand behind all others.** -/
theorem wp_region_qt {id : Nat} {Q : Exit → Act → World → Prop} {a : Act} {w : World} {l : List Oper} (n : Nat) (C : World → Prop) (hC : C w.drew) (hm : P.follows .mixedOrders = true) (hB : Region.lexTailB .any l.toArray n = true)
    (h : wpQuiet P l.toArray C (fun a' => ∀ w', C w' → wpList P l.toArray Q (l.drop n) a' w') (l.take n) a) : (Code.region id l.toArray true).wp P Q a w :=
  wp_region_ct n (Cls.quiet C) hC hm hB (wpG_of_quiet (fun a' hd h' xs w' hw' _ => by
    have e : fillA xs (a'.tmps.toList.map .v) a.defers = a' := by
      obtain ⟨t, d⟩ := a'
      simp only at hd
      subst hd
      simp only [fillA, fillFrom_v, Array.toArray_toList]
    rw [e]
    exact h' w' hw') _ a rfl h)
theorem wp_region_q {id : Nat} {Q : Exit → Act → World → Prop} {a : Act} {w : World} {l : List Oper} (C : World → Prop) (hC : C w.drew) (hm : P.follows .mixedOrders = true) (hB : Region.lexB .any l.toArray = true)
    (h : wpQuiet P l.toArray C (fun a' => ∀ w', C w' → Q .normal a' w') l a) : (Code.region id l.toArray true).wp P Q a w :=
  wp_region_quiet hm hB hC (by simpa using h)
end
end Go.Proofs.Ytapojpjmeadabaa
end

section
/- What Go's operators on uint32, uint8 and uint64 come to, said of words of 32 bits, of bytes, of numbers below 2^64. -/
namespace Go.Proofs.Ytapojpjmeadabaa
open Go.RowKit
def i32 (x : BitVec 32) : Int := (x.toNat : Int)
def i8 (x : UInt8) : Int := (x.toNat : Int)
abbrev W32 (x : BitVec 32) : Value := .int .u32 (i32 x)
abbrev B8 (x : UInt8) : Value := .int .u8 (i8 x)
theorem i8_nonneg (x : UInt8) : 0 ≤ i8 x := by unfold i8; omega
theorem i8_lt (x : UInt8) : i8 x < 256 := by have := x.toNat_lt; unfold i8; omega
theorem i32_nonneg (x : BitVec 32) : 0 ≤ i32 x := by unfold i32; omega
theorem i32_lt (x : BitVec 32) : i32 x < 4294967296 := by have := x.isLt; unfold i32; omega
theorem i8_inj {x y : UInt8} (h : i8 x = i8 y) : x = y := by
  unfold i8 at h; exact UInt8.toNat_inj.1 (by omega)
theorem i32_inj {x y : BitVec 32} (h : i32 x = i32 y) : x = y := by
  unfold i32 at h; exact BitVec.eq_of_toNat_eq (by omega)

theorem ofInt_i32 (x : BitVec 32) : BitVec.ofInt 32 (i32 x) = x := by simp [i32]
theorem ofInt_i8 (x : UInt8) : BitVec.ofInt 8 (i8 x) = x.toBitVec := by
  apply BitVec.eq_of_toNat_eq; simp [i8]
theorem wrap_i32' (x : BitVec 32) : IntKind.u32.wrap (x.toNat : Int) = x.toNat := by
  have := x.isLt
  simp [IntKind.wrap, IntKind.bits, IntKind.signed]; omega
theorem wrap_i8' (x : BitVec 8) : IntKind.u8.wrap (x.toNat : Int) = x.toNat := by
  have := x.isLt
  simp [IntKind.wrap, IntKind.bits, IntKind.signed]; omega
theorem u32_xor (x y : BitVec 32) : bits .xor .u32 (i32 x) (i32 y) = i32 (x ^^^ y) := by
  unfold bits; simp only [IntKind.bits]; rw [ofInt_i32, ofInt_i32]; exact wrap_i32' _
theorem u32_or (x y : BitVec 32) : bits .or .u32 (i32 x) (i32 y) = i32 (x ||| y) := by
  unfold bits; simp only [IntKind.bits]; rw [ofInt_i32, ofInt_i32]; exact wrap_i32' _
theorem u32_and (x y : BitVec 32) : bits .and .u32 (i32 x) (i32 y) = i32 (x &&& y) := by
  unfold bits; simp only [IntKind.bits]; rw [ofInt_i32, ofInt_i32]; exact wrap_i32' _
theorem u8_xor (x y : UInt8) : bits .xor .u8 (i8 x) (i8 y) = i8 (x ^^^ y) := by
  unfold bits; simp only [IntKind.bits]; rw [ofInt_i8, ofInt_i8]; exact wrap_i8' _
theorem u8_or (x y : UInt8) : bits .or .u8 (i8 x) (i8 y) = i8 (x ||| y) := by
  unfold bits; simp only [IntKind.bits]; rw [ofInt_i8, ofInt_i8]; exact wrap_i8' _
theorem u8_and (x y : UInt8) : bits .and .u8 (i8 x) (i8 y) = i8 (x &&& y) := by
  unfold bits; simp only [IntKind.bits]; rw [ofInt_i8, ofInt_i8]; exact wrap_i8' _
theorem u32_add (x y : BitVec 32) : IntKind.u32.wrap (i32 x + i32 y) = i32 (x + y) := by
  simp only [i32, BitVec.toNat_add, IntKind.wrap, IntKind.bits, IntKind.signed]; simp
theorem u32_shl (x : BitVec 32) (n : Nat) : IntKind.u32.wrap (i32 x * 2 ^ n) = i32 (x <<< n) := by
  simp only [i32, BitVec.toNat_shiftLeft, Nat.shiftLeft_eq, IntKind.wrap, IntKind.bits, IntKind.signed]; simp
theorem u32_shr (x : BitVec 32) (n : Nat) : i32 x / 2 ^ n = i32 (x >>> n) := by
  simp only [i32, BitVec.toNat_ushiftRight, Nat.shiftRight_eq_div_pow]; simp
theorem u32_shl24 (x : BitVec 32) : IntKind.u32.wrap (i32 x * (16777216 : Int)) = i32 (x <<< 24) := u32_shl x 24
theorem u32_shl16 (x : BitVec 32) : IntKind.u32.wrap (i32 x * (65536 : Int)) = i32 (x <<< 16) := u32_shl x 16
theorem u32_shl8 (x : BitVec 32) : IntKind.u32.wrap (i32 x * (256 : Int)) = i32 (x <<< 8) := u32_shl x 8
theorem u32_shr3 (x : BitVec 32) : i32 x / (8 : Int) = i32 (x >>> 3) := u32_shr x 3
theorem u32_shr10 (x : BitVec 32) : i32 x / (1024 : Int) = i32 (x >>> 10) := u32_shr x 10
theorem u32_wrap (x : BitVec 32) : IntKind.u32.wrap (i32 x) = i32 x := wrap_i32' x
theorem u8_wrap (x : UInt8) : IntKind.u8.wrap (i8 x) = i8 x := wrap_i8' x.toBitVec
theorem u32_of_u8 (b : UInt8) : IntKind.u32.wrap (i8 b) = i32 (Sha.b32 b) := by
  have := b.toNat_lt
  simp [i8, i32, Sha.b32, IntKind.wrap, IntKind.bits, IntKind.signed]; omega
theorem u32_u8 (b : UInt8) : i8 b = i32 (Sha.b32 b) := by
  have := b.toNat_lt
  simp [i8, i32, Sha.b32]
theorem u8_of_nat (n : Nat) : IntKind.u8.wrap (n : Int) = i8 (UInt8.ofNat n) := by
  simp [i8, IntKind.wrap, IntKind.bits, IntKind.signed]
theorem u8_of_i32 (x : BitVec 32) : IntKind.u8.wrap (i32 x) = i8 (UInt8.ofNat x.toNat) := u8_of_nat _
theorem u8_of_i32_24 (x : BitVec 32) : IntKind.u8.wrap (i32 x / (16777216 : Int)) = i8 (UInt8.ofNat (x.toNat / 16777216)) := u8_of_nat _
theorem u8_of_i32_16 (x : BitVec 32) : IntKind.u8.wrap (i32 x / (65536 : Int)) = i8 (UInt8.ofNat (x.toNat / 65536)) := u8_of_nat _
theorem u8_of_i32_8 (x : BitVec 32) : IntKind.u8.wrap (i32 x / (256 : Int)) = i8 (UInt8.ofNat (x.toNat / 256)) := u8_of_nat _
theorem u32_not (x : BitVec 32) : bits .xor .u32 (i32 x) 4294967295 = i32 (~~~ x) := by
  have h := u32_xor x 4294967295#32
  rw [show i32 4294967295#32 = 4294967295 from rfl] at h
  rw [h]
  congr 1
  apply BitVec.eq_of_getLsbD_eq
  intro i hi
  have e : (4294967295#32 : BitVec 32) = BitVec.allOnes 32 := rfl
  rw [e, BitVec.getLsbD_xor, BitVec.getLsbD_allOnes, BitVec.getLsbD_not]
  simp [hi]
theorem i32_mod (x : BitVec 32) : i32 x % (4294967296 : Int) = i32 x := Int.emod_eq_of_lt (i32_nonneg x) (i32_lt x)
theorem i8_mod (x : UInt8) : i8 x % (256 : Int) = i8 x := Int.emod_eq_of_lt (i8_nonneg x) (i8_lt x)
theorem m32_add (x y : BitVec 32) : (i32 x + i32 y) % (4294967296 : Int) = i32 (x + y) := by rw [← u32_add, IntKind.wrap_u32]
theorem m32_shl24 (x : BitVec 32) : i32 x * (16777216 : Int) % (4294967296 : Int) = i32 (x <<< 24) := by have h := u32_shl24 x; rw [IntKind.wrap_u32] at h; exact h
theorem m32_shl16 (x : BitVec 32) : i32 x * (65536 : Int) % (4294967296 : Int) = i32 (x <<< 16) := by have h := u32_shl16 x; rw [IntKind.wrap_u32] at h; exact h
theorem m32_shl8 (x : BitVec 32) : i32 x * (256 : Int) % (4294967296 : Int) = i32 (x <<< 8) := by have h := u32_shl8 x; rw [IntKind.wrap_u32] at h; exact h
theorem m8_of_nat (n : Nat) : (n : Int) % (256 : Int) = i8 (UInt8.ofNat n) := by rw [← u8_of_nat, IntKind.wrap_u8]
theorem m8_of_i32 (x : BitVec 32) : i32 x % (256 : Int) = i8 (UInt8.ofNat x.toNat) := m8_of_nat _
theorem m8_of_i32_24 (x : BitVec 32) : i32 x / (16777216 : Int) % (256 : Int) = i8 (UInt8.ofNat (x.toNat / 16777216)) := m8_of_nat _
theorem m8_of_i32_16 (x : BitVec 32) : i32 x / (65536 : Int) % (256 : Int) = i8 (UInt8.ofNat (x.toNat / 65536)) := m8_of_nat _
theorem m8_of_i32_8 (x : BitVec 32) : i32 x / (256 : Int) % (256 : Int) = i8 (UInt8.ofNat (x.toNat / 256)) := m8_of_nat _
/-- all that a walk over words wants -/
theorem m32_of_u8 (b : UInt8) : i8 b % (4294967296 : Int) = i32 (Sha.b32 b) := by rw [← IntKind.wrap_u32, u32_of_u8]
theorem u32_not_max (x : BitVec 32) : bits .xor .u32 IntKind.u32.max (i32 x) = i32 (~~~ x) := by
  have h := u32_xor 4294967295#32 x
  rw [show i32 4294967295#32 = IntKind.u32.max from rfl] at h
  rw [h]
  congr 1
end Go.Proofs.Ytapojpjmeadabaa
end

section
/- Words on memory: worlds that have only grown; slices of bytes; arrays of words. Small laws that the walks take up. -/
namespace Go.Proofs.Ytapojpjmeadabaa
open Go.RowKit
set_option linter.unusedVariables false
set_option linter.unusedSimpArgs false

/-! ### A world that has only grown -/
structure Grow (w : World) where
  nw : World
  up : Ext w nw
instance (w : World) : Nonempty (Grow w) := ⟨⟨w, Ext.refl w⟩⟩
def _root_.Go.World.ext (w : World) (x : Grow w) : World := x.nw
theorem ext_ext (w : World) (x : Grow w) : Ext w (w.ext x) := x.up
theorem mk_ext {w w' : World} (h : Ext w w') : ∃ x, w' = w.ext x := ⟨⟨w', h⟩, rfl⟩
theorem ext_heap (w : World) (x : Grow w) (k : Nat) (h : k < w.heap.size) : (w.ext x).heap[k]? = w.heap[k]? := x.up.block h
theorem cell?_ext (w : World) (x : Grow w) (b i : Nat) (h : b < w.heap.size) : (w.ext x).cell? ⟨b, i, none⟩ = w.cell? ⟨b, i, none⟩ := World.cell?_of_block (ext_heap w x b h)
theorem frozen?_ext (w : World) (x : Grow w) (b i : Nat) (h : b < w.heap.size) : (w.ext x).frozen? ⟨b, i, none⟩ = w.frozen? ⟨b, i, none⟩ := World.frozen?_of_block (ext_heap w x b h)
theorem ext_join (w : World) (x : Grow w) (y : Grow (w.ext x)) : ∃ z : Grow w, (w.ext x).ext y = w.ext z := ⟨⟨(w.ext x).ext y, x.up.trans y.up⟩, rfl⟩
theorem lt_ext (w : World) (x : Grow w) (b : Nat) (h : b < w.heap.size) : b < (w.ext x).heap.size := Nat.lt_of_lt_of_le h x.up.size
theorem shape?_ext (w : World) (x : Grow w) (b : Nat) (h : b < w.heap.size) : (w.ext x).shape? b = w.shape? b := by unfold World.shape?; rw [ext_heap w x b h]
theorem Ext.cell {w w' : World} (h : Ext w w') (b i : Nat) (hb : b < w.heap.size) : w'.cell? ⟨b, i, none⟩ = w.cell? ⟨b, i, none⟩ := World.cell?_of_block (h.block hb)

theorem wp_region_qx {P : Program} {id : Nat} {Q : Exit → Act → World → Prop} {a : Act} {w : World} {l : List Oper} (hm : P.follows .mixedOrders = true) (hB : Region.lexB .any l.toArray = true)
    (h : wpQuiet P l.toArray (fun w' => ∃ x : Grow w, w' = w.ext x) (fun a' => ∀ x : Grow w, Q .normal a' (w.ext x)) l a) : (Code.region id l.toArray true).wp P Q a w :=
  wp_region_quiet (C := fun w' => ∃ x : Grow w, w' = w.ext x) (Q := Q) hm hB (mk_ext (Ext.refl w).drew) (by
    have e : (fun a' : Act => ∀ x : Grow w, Q .normal a' (w.ext x)) = (fun a' => ∀ w', (∃ x : Grow w, w' = w.ext x) → Q .normal a' w') := by
      funext a'
      exact propext ⟨fun h w' ⟨x, hx⟩ => hx ▸ h x, fun h x => h _ ⟨x, rfl⟩⟩
    rw [e] at h
    simpa using h)
theorem wp_region_qxt {P : Program} {id : Nat} {Q : Exit → Act → World → Prop} {a : Act} {w : World} {l : List Oper} (n : Nat) (hm : P.follows .mixedOrders = true) (hB : Region.lexTailB .any l.toArray n = true)
    (h : wpQuiet P l.toArray (fun w' => ∃ x : Grow w, w' = w.ext x) (fun a' => ∀ x : Grow w, wpList P l.toArray Q (l.drop n) a' (w.ext x)) (l.take n) a) : (Code.region id l.toArray true).wp P Q a w :=
  wp_region_qt n (fun w' => ∃ x : Grow w, w' = w.ext x) (mk_ext (Ext.refl w).drew) hm hB (by
    have e : (fun a' : Act => ∀ x : Grow w, wpList P l.toArray Q (l.drop n) a' (w.ext x)) = (fun a' => ∀ w', (∃ x : Grow w, w' = w.ext x) → wpList P l.toArray Q (l.drop n) a' w') := by
      funext a'
      exact propext ⟨fun h w' ⟨x, hx⟩ => hx ▸ h x, fun h x => h _ ⟨x, rfl⟩⟩
    rw [e] at h
    exact h)
theorem wp_region_gx {P : Program} {id : Nat} {Q : Exit → Act → World → Prop} {a : Act} {w : World} {l : List Oper} (hm : P.follows .mixedOrders = true) (hB : Region.lexB .any l.toArray = true)
    (h : wpG P l.toArray (Cls.grown w) a.defers (gPost (Cls.grown w) a.defers (fun a' w' => Q .normal a' w')) l (a.tmps.toList.map .v)) : (Code.region id l.toArray true).wp P Q a w :=
  wp_region_c (Cls.grown w) (Ext.refl w).drew hm hB h
theorem wp_region_gxt {P : Program} {id : Nat} {Q : Exit → Act → World → Prop} {a : Act} {w : World} {l : List Oper} (n : Nat) (hm : P.follows .mixedOrders = true) (hB : Region.lexTailB .any l.toArray n = true)
    (h : wpG P l.toArray (Cls.grown w) a.defers (gPost (Cls.grown w) a.defers (fun a' w' => wpList P l.toArray Q (l.drop n) a' w')) (l.take n) (a.tmps.toList.map .v)) : (Code.region id l.toArray true).wp P Q a w :=
  wp_region_ct n (Cls.grown w) (Ext.refl w).drew hm hB h
/-- A callee that leaves what was there, met in a world that has grown. -/
theorem Calls.in_ext {P : Program} {f : FuncId} {args : Array Value} {w : World} {x : Grow w} {v : Value}
    (h : Calls P f args (w.ext x) fun e w' => e = .returned v ∧ Ext (w.ext x) w') : Calls P f args (w.ext x) fun e w'' => e = .returned v ∧ ∃ y : Grow w, w'' = w.ext y :=
  h.mono fun _ _ ⟨he, hx⟩ => ⟨he, mk_ext (x.up.trans hx)⟩
theorem Calls.in_ext_same {P : Program} {f : FuncId} {args : Array Value} {w : World} {x : Grow w} {v : Value}
    (h : Calls P f args (w.ext x) fun e w' => e = .returned v ∧ w.ext x = w') : Calls P f args (w.ext x) fun e w'' => e = .returned v ∧ ∃ y : Grow w, w'' = w.ext y :=
  h.mono fun _ _ ⟨he, hx⟩ => ⟨he, x, hx.symm⟩

/-- A store into a block that is new. -/
theorem Ext.setCell_new {a b : World} (h : Ext a b) {p : Addr} (_ : True) (hp : a.heap.size ≤ p.block) {u : Value} : Ext a (b.setCell p u) := Below.setCell h hp u

/-! ### Arrays of words -/
def z32 : Value := .int .u32 0
def row32 (n : Nat) (l : List (BitVec 32)) : Array Value := (l.map W32 ++ List.replicate (n - l.length) z32).toArray
theorem row32_size {n : Nat} {l : List (BitVec 32)} (h : l.length ≤ n) : (row32 n l).size = n := by simp [row32]; omega
theorem row32_get {n : Nat} {l : List (BitVec 32)} {i : Nat} (h : i < l.length) : (row32 n l)[i]? = some (W32 (l.getD i 0)) := by
  simp [row32, List.getElem?_append_left, h]
theorem row32_push {n : Nat} {l : List (BitVec 32)} (x : BitVec 32) (h : l.length < n) : (row32 n l).setIfInBounds l.length (W32 x) = row32 n (l ++ [x]) := by
  unfold row32
  apply Array.ext'
  simp only [Array.toList_setIfInBounds, List.map_append, List.map_cons, List.map_nil, List.length_append, List.length_cons, List.length_nil]
  rw [List.set_append_right _ _ (by simp)]
  simp only [List.length_map, Nat.sub_self]
  obtain ⟨m, hm⟩ : ∃ m, n - l.length = m + 1 := ⟨n - l.length - 1, by omega⟩
  rw [hm, show n - (l.length + (0 + 1)) = m by omega]
  simp [List.replicate_succ]
theorem row32_one (n : Nat) (l : List (BitVec 32)) : (row32 n l).all (·.oneCell') = true := by
  simp [row32, Value.oneCell', z32]
theorem row32_zero {w : World} {b n T k : Nat} {l : List (BitVec 32)} (h : w.heap[b]? = some (.cells (row32 n l) T (0, 0))) (hk : l.length ≤ k) (hn : k < n) : w.cell? ⟨b, k, none⟩ = some z32 := by
  rw [cell_of_row w b k _ T _ h]
  simp only [row32, List.getElem?_toArray]
  rw [List.getElem?_append_right (by simpa using hk)]
  simp only [List.length_map]
  rw [List.getElem?_replicate, if_pos (by omega)]
theorem zero98 : (∀ w, (zeroValue 98).run Try.prog w = .ok (.agg (row32 64 [])) w) ∧ (Try.prog.info? 98).map (·.size) = some 64 := zero_of_info (by kernel_rfl)
theorem wp_alloc_agg {P : Program} {o : Oper} {a : Act} {w : World} {K : Act → World → Prop} {Q : Exit → Act → World → Prop} (E : TypeId) (ho : o.op = .alloc E) (z : Array Value)
    (hz : ∀ w, (zeroValue E).run P w = .ok (.agg z) w) (h : K (a.put o.dst (.pointer (some ⟨w.heap.size, 0, none⟩))) (w.alloc (.cells z E))) : o.wp P a w K Q := by
  unfold Oper.wp execOp
  simp only [ho, Instr.alloc, Sem.run_bind, hz, Result.andThen_ok]
  exact h
theorem wpl_alloc_agg {P : Program} {ops : Array Oper} {rest : List Oper} {o : Oper} {a : Act} {w : World} {Q : Exit → Act → World → Prop} (hgd : o.guard = none) (E : TypeId) (ho : o.op = .alloc E) (z : Array Value)
    (hz : ∀ w, (zeroValue E).run P w = .ok (.agg z) w) (h : wpList P ops Q rest (a.put o.dst (.pointer (some ⟨w.heap.size, 0, none⟩))) (w.alloc (.cells z E))) : wpList P ops Q (o :: rest) a w :=
  wpList_plain hgd fun _ hK => wp_alloc_agg E ho z hz (hK _ _ h)
theorem size98 (l : List (BitVec 32)) (h : l.length ≤ 64) : (Try.prog.info? 98).map (·.size) = some (row32 64 l).size := by rw [row32_size h]; exact zero98.2
theorem wpl_load98 {ops : Array Oper} {rest : List Oper} {o : Oper} {a : Act} {w : World} {Q : Exit → Act → World → Prop} (hgd : o.guard = none) (x : Operand) (ho : o.op = .load 98 x)
    (g : Nat) (hx : a.eval x = .pointer (some ⟨g, 0, none⟩)) (l : List (BitVec 32)) (hl : l.length ≤ 64) (hg : w.heap[g]? = some (.cells (row32 64 l) 98 (0, 0)))
    (h : wpList Try.prog ops Q rest (a.put o.dst (.agg (row32 64 l))) w) : wpList Try.prog ops Q (o :: rest) a w :=
  wpList_load_row hgd 98 x ho g hx 98 _ (0, 0) _ hg Try.underlying98 rfl (size98 l hl) h
theorem wpl_store98 {ops : Array Oper} {rest : List Oper} {o : Oper} {a : Act} {w : World} {Q : Exit → Act → World → Prop} (hgd : o.guard = none) (x y : Operand) (ho : o.op = .store 98 x y)
    (g : Nat) (l l0 : List (BitVec 32)) (hx : a.eval x = .pointer (some ⟨g, 0, none⟩)) (hy : a.eval y = .agg (row32 64 l)) (hl : l.length ≤ 64) (hl0 : l0.length ≤ 64) (hg : w.heap[g]? = some (.cells (row32 64 l0) 98 (0, 0)))
    (h : wpList Try.prog ops Q rest (a.put o.dst undef) (w.setRow g (row32 64 l))) : wpList Try.prog ops Q (o :: rest) a w :=
  wpList_store_row hgd 98 x y ho g _ hx hy 98 _ hg (size98 l hl) (by rw [row32_size hl, row32_size hl0]) (row32_one 64 l) h

theorem Ext.setRow_new {a b : World} (h : Ext a b) {g : Nat} (hg : a.heap.size ≤ g) (cs : Array Value) : Ext a (b.setRow g cs) :=
  Below.trans h ⟨rfl, rfl, rfl, by simp, fun k hk => by simp only [World.setRow, Array.getElem?_modify]; rw [if_neg (by omega)]⟩
theorem ret98 {fn : Func} {p : Tmp} {R : Ending → World → Prop} {a : Act} {w : World} (hr : fn.results = #[.cell p 98]) (g : Nat) (l : List (BitVec 32)) (hl : l.length ≤ 64)
    (hp : a.tmps.getD p undef = .pointer (some ⟨g, 0, none⟩)) (hg : w.heap[g]? = some (.cells (row32 64 l) 98 (0, 0))) (hd : a.defers = []) (hR : R (.returned (.agg (row32 64 l))) w) : bodyPost Try.prog fn R .ret a w :=
  bodyPost_ret (results_cell_row hr a.tmps w g 98 _ (0, 0) _ hp hg Try.underlying98 rfl (size98 l hl)) hd hR

/-! ### Worlds in which one old block has turned -/
abbrev Upd (w w' : World) (g : Nat) : Prop := w.grownBy w' (some g)
theorem Upd.of_ext {w w' : World} (h : Ext w w') (g : Nat) : Upd w w' g := ⟨h.os, h.tape, h.output, h.size, fun i hi _ => h.block hi⟩
theorem Upd.trans {a b c : World} {g : Nat} (h : Upd a b g) (k : Upd b c g) : Upd a c g :=
  ⟨k.os.trans h.os, k.tape.trans h.tape, k.output.trans h.output, Nat.le_trans h.size k.size, fun i hi hn => (k.block i (Nat.lt_of_lt_of_le hi h.size) hn).trans (h.block i hi hn)⟩
theorem Upd.setCell {a b : World} {g : Nat} (h : Upd a b g) {p : Addr} (hp : p.block = g ∨ a.heap.size ≤ p.block) (u : Value) : Upd a (b.setCell p u) g :=
  ⟨h.os, h.tape, h.output, by simpa [World.setCell] using h.size, fun i hi hne => (Below.heap_setCell b p u i (by
    rintro rfl
    rcases hp with hp | hp
    · exact hne (by rw [hp])
    · omega)).trans (h.block i hi hne)⟩
theorem Upd.old {a b : World} {g k : Nat} (h : Upd a b g) (hk : k < a.heap.size) (hne : k ≠ g) : b.heap[k]? = a.heap[k]? := h.block k hk (fun e => hne (by injection e))
/-- What was new already may turn as well. -/
theorem Ext.upd_new {a b c : World} {g : Nat} (h : Ext a b) (k : Upd b c g) (hg : a.heap.size ≤ g) : Ext a c :=
  ⟨k.os.trans h.os, k.tape.trans h.tape, k.output.trans h.output, Nat.le_trans h.size k.size, fun i hi => (k.old (Nat.lt_of_lt_of_le hi h.size) (by omega)).trans (h.block hi)⟩

/-! ### A Hash's cells: eight words, what is left, how many there were, its constants -/
def hcells (L : List (BitVec 32)) (rest long kp : Value) : Array Value := (L.map W32 ++ [rest, long, kp]).toArray
theorem hcells_get {L : List (BitVec 32)} {rest long kp : Value} {i : Nat} (h : i < L.length) : (hcells L rest long kp)[i]? = some (W32 (L.getD i 0)) := by
  simp [hcells, List.getElem?_append_left, h]
theorem hcells_set {L : List (BitVec 32)} {rest long kp : Value} {i : Nat} (x : BitVec 32) (h : i < L.length) : (hcells L rest long kp).setIfInBounds i (W32 x) = hcells (L.set i x) rest long kp := by
  simp only [hcells, List.setIfInBounds_toArray]
  rw [List.set_append_left _ _ (by simpa using h), List.map_set]
end Go.Proofs.Ytapojpjmeadabaa
end

section
/- Words turned to the right or left: math/bits.RotateLeft32, sha.right, sacristanref02.turn. For every word, by 1 to 31. -/
namespace Go.Proofs.Ytapojpjmeadabaa
open Go.RowKit
attribute [local go_sem] cell?_ext frozen?_ext shape?_ext u32_xor u32_or u32_and u32_not u32_add u32_wrap u8_wrap u32_shl24 u32_shl16 u32_shl8 u32_shr3 u32_shr10 u8_xor u8_or u32_of_u8 i32_mod i8_mod m32_add m32_shl24 m32_shl16 m32_shl8 m32_of_u8
theorem rl_shift (n : Nat) (hn : 0 < n) (hn' : n < 32) : bits .and .u64 (IntKind.u64.wrap (-(n:Int))) 31 = ((32 - n : Nat) : Int) := by
  have : n = 1 ∨ n = 2 ∨ n = 3 ∨ n = 4 ∨ n = 5 ∨ n = 6 ∨ n = 7 ∨ n = 8 ∨ n = 9 ∨ n = 10 ∨ n = 11 ∨ n = 12 ∨ n = 13 ∨ n = 14 ∨ n = 15 ∨ n = 16 ∨ n = 17 ∨ n = 18 ∨ n = 19 ∨ n = 20 ∨ n = 21 ∨ n = 22 ∨ n = 23 ∨ n = 24 ∨ n = 25 ∨ n = 26 ∨ n = 27 ∨ n = 28 ∨ n = 29 ∨ n = 30 ∨ n = 31 := by omega
  rcases this with h|h|h|h|h|h|h|h|h|h|h|h|h|h|h|h|h|h|h|h|h|h|h|h|h|h|h|h|h|h|h <;> subst h <;> decide
section
attribute [local go_sem] u32_shl u32_shr
set_option maxHeartbeats 400000 in
theorem turn_any (x : BitVec 32) (c : Int) (n : Nat) (hc : c = n) (hn : 0 < n) (hn' : n < 32) (w : World) :
    Calls Try.prog 114 #[W32 x, .int .i64 c] w fun e w' => e = .returned (W32 (Sha.rot x n)) ∧ w = w' := by
  subst hc
  go_enter Try.func114, Try.ntmps114
  go_wp2
  go_ret
  exact ⟨rfl, rfl⟩
set_option maxHeartbeats 400000 in
theorem rl_any (x : BitVec 32) (n : Nat) (hn : 0 < n) (hn' : n < 32) (w : World) :
    Calls Try.prog 121 #[W32 x, .int .i64 (-(n:Int))] w fun e w' => e = .returned (W32 (Sha.rot x n)) ∧ w = w' := by
  have h1 := rl_shift n hn hn'
  have h2 : 32 - (32 - n) = n := by omega
  have h3 := BitVec.or_comm (x <<< (32 - n)) (x >>> n)
  go_enter Try.func121, Try.ntmps121
  go_wp2
  go_ret
  exact ⟨by rw [Sha.rot, ← h3]; rfl, rfl⟩
set_option maxHeartbeats 400000 in
theorem right_any (x : BitVec 32) (c : Int) (n : Nat) (hc : c = n) (hn : 0 < n) (hn' : n < 32) (w : World) :
    Calls Try.prog 116 #[W32 x, .int .i64 c] w fun e w' => e = .returned (W32 (Sha.rot x n)) ∧ w = w' := by
  subst hc
  go_enter Try.func116, Try.ntmps116
  go_wp2_with (go_at_call 121; refine (rl_any x n hn hn' _).mono ?_; rintro e w' ⟨rfl, rfl⟩)
  go_ret
  exact ⟨rfl, rfl⟩
end
theorem right_c (x : BitVec 32) (c : Int) (h0 : 0 < c) (h1 : c < 32) (w : World) :
    Calls Try.prog 116 #[W32 x, .int .i64 c] w fun e w' => e = .returned (W32 (Sha.rot x c.toNat)) ∧ w = w' := right_any x c c.toNat (by omega) (by omega) (by omega) w
theorem turn_c (x : BitVec 32) (c : Int) (h0 : 0 < c) (h1 : c < 32) (w : World) :
    Calls Try.prog 114 #[W32 x, .int .i64 c] w fun e w' => e = .returned (W32 (Sha.rot x c.toNat)) ∧ w = w' := turn_any x c c.toNat (by omega) (by omega) (by omega) w
end Go.Proofs.Ytapojpjmeadabaa
end

section
/- sha.schedule: the 64 words of a block of 64 bytes. -/
namespace Go.Proofs.Ytapojpjmeadabaa
open Go.RowKit
set_option linter.unusedVariables false
set_option linter.unusedSimpArgs false
attribute [local go_sem] cell?_ext frozen?_ext shape?_ext u32_xor u32_or u32_and u32_not u32_add u32_wrap u8_wrap u32_shl24 u32_shl16 u32_shl8 u32_shr3 u32_shr10 u8_xor u8_or u32_of_u8 i32_mod i8_mod m32_add m32_shl24 m32_shl16 m32_shl8 m32_of_u8
set_option maxRecDepth 100000 in
set_option maxHeartbeats 1000000 in
theorem sched_any (l : List UInt8) (hl : l.length = 64) (b off cap : Nat) (w : World) (hb : b < w.heap.size)
    (hc : ∀ i, i < 64 → w.cell? ⟨b, off + i, none⟩ = some (B8 (l.getD i 0))) :
    Calls Try.prog 115 #[.slice (some ⟨b, off, none⟩) 64 cap] w fun e w' => e = .returned (.agg (row32 64 (Sha.words l 64))) ∧ Ext w w' := by
  go_enter Try.func115, Try.ntmps115
  go_wp2
  go_loopw [4, 8] (fun _ i wr => ∃ k : Nat, k ≤ 16 ∧ i = .int .i64 k ∧ Ext w wr ∧ wr.heap[w.heap.size]? = some (.cells (row32 64 []) 98 (0, 0)) ∧ wr.heap[w.heap.size + 1]? = some (.cells (row32 64 (Sha.words l k)) 98 (0, 0)))
    (fun _ i _ => 16 - (intOf i).toNat)
  case atStart =>
    exact ⟨0, by omega, rfl, ((Ext.refl _).alloc _).alloc _, heap_alloc2_old _ _ _, heap_alloc2_new _ _ _⟩
  case round =>
    obtain ⟨k, hk, rfl, he, hR, hV⟩ := hrel
    by_cases hlt : k < 16
    · have c0 := hc (4 * k) (by omega)
      have c1 := hc (4 * k + 1) (by omega)
      have c2 := hc (4 * k + 2) (by omega)
      have c3 := hc (4 * k + 3) (by omega)
      rw [← he.cell _ _ hb] at c0 c1 c2 c3
      have hbr : b < wr.heap.size := Nat.lt_of_lt_of_le hb he.size
      have hVr : w.heap.size + 1 < wr.heap.size := (Array.getElem?_eq_some_iff.1 hV).1
      have HE := Lib.hid he
      have HR := Lib.hid hR
      have HV := Lib.hid hV
      clear he hR hV hc hl
      go_wp2
      refine wp_region_qxt 35 (by kernel_rfl) (by kernel_rfl) ?_
      simp only [List.take_succ_cons, List.take_zero, List.drop_succ_cons, List.drop_zero]
      repeat (go_big_quiet_step (fail))
      refine wpQuiet_nil ?_
      intro x
      have he1 := ext_ext wr x
      have hV1 := ext_heap wr x _ hVr
      rw [HV.out] at hV1
      generalize wr.ext x = w1 at *
      have HE1 := Lib.hid he1
      have HV1 := Lib.hid hV1
      have hc1 : w1.cell? ⟨w.heap.size + 1, k, none⟩ = some z32 := row32_zero hV1 (by rw [Sha.words_length]; omega) (by omega)
      have hf1 : w1.frozen? ⟨w.heap.size + 1, k, none⟩ = false := frozen_of_row _ _ _ _ _ hV1
      clear he1 hV1  c0 c1 c2 c3 hbr
      go_wp2
      go_roundw
      case rel =>
        refine ⟨k + 1, by omega, by go_num, ?_, ?_, ?_⟩
        · exact (HE.out.trans HE1.out).setCell_new (by simp) (by simp)
        · rw [heap_setCell_other _ _ _ _ (by simp), HE1.out.block (Nat.lt_trans (Nat.lt_succ_self _) hVr)]; exact HR.out
        · rw [heap_setCell_same _ _ _ _ _ _ HV1.out]
          have h := row32_push (n := 64) (l := Sha.words l k) (Sha.nxt l (Sha.words l k) k) (by rw [Sha.words_length]; omega)
          rw [Sha.words_length] at h
          show some (Obj.cells _ 98 (0, 0)) = some (Obj.cells (row32 64 (Sha.words l k ++ [Sha.nxt l (Sha.words l k) k])) 98 (0, 0))
          rw [← h]
          simp only [Sha.nxt, hlt, if_true]
          rfl
      case measure => simp [intOf]; omega
    · have hk16 : k = 16 := by omega
      subst hk16
      have HE := Lib.hid he
      have HR := Lib.hid hR
      have HV := Lib.hid hV
      clear he hR hV hc hl hlt hk
      go_wp2
      go_loopw [5] (fun i wr => ∃ k : Nat, 16 ≤ k ∧ k ≤ 64 ∧ i = .int .i64 k ∧ Ext w wr ∧ wr.heap[w.heap.size]? = some (.cells (row32 64 []) 98 (0, 0)) ∧ wr.heap[w.heap.size + 1]? = some (.cells (row32 64 (Sha.words l k)) 98 (0, 0)))
        (fun i _ => 64 - (intOf i).toNat)
      case atStart => exact ⟨16, by omega, by omega, rfl, HE.out, HR.out, HV.out⟩
      case round =>
        clear HE HR HV
        obtain ⟨k, hk1, hk2, rfl, he, hR, hV⟩ := hrel
        by_cases hlt : k < 64
        · have hVr : w.heap.size + 1 < wr.heap.size := (Array.getElem?_eq_some_iff.1 hV).1
          have hlen := Sha.words_length l k
          have cell : ∀ j, j < k → wr.cell? ⟨w.heap.size + 1, j, none⟩ = some (W32 ((Sha.words l k).getD j 0)) := fun j hj => by
            rw [cell_of_row _ _ _ _ _ _ hV]; exact row32_get (by omega)
          have c15 := cell (k - 15) (by omega)
          have c2 := cell (k - 2) (by omega)
          have c16 := cell (k - 16) (by omega)
          have c7 := cell (k - 7) (by omega)
          have HE := Lib.hid he
          have HR := Lib.hid hR
          have HV := Lib.hid hV
          clear he hR hV cell hlen
          go_wp2
          refine wp_region_qx (by kernel_rfl) (by kernel_rfl) ?_
          repeat (go_big_quiet_step (fail))
          refine wpQuiet_nil ?_
          intro x
          have he1 := ext_ext wr x
          have d15 := (cell?_ext wr x _ (k - 15) hVr).trans c15
          have d2 := (cell?_ext wr x _ (k - 2) hVr).trans c2
          have d16 := (cell?_ext wr x _ (k - 16) hVr).trans c16
          have d7 := (cell?_ext wr x _ (k - 7) hVr).trans c7
          generalize wr.ext x = w1 at *
          have h1s : w.heap.size + 1 < w1.heap.size := Nat.lt_of_lt_of_le hVr he1.size
          have HE1 := Lib.hid he1
          clear he1 c15 c2 c16 c7
          go_wp2
          refine wp_region_qxt 29 (by kernel_rfl) (by kernel_rfl) ?_
          simp only [List.take_succ_cons, List.take_zero, List.drop_succ_cons, List.drop_zero]
          repeat (go_big_quiet_step (exact Calls.in_ext_same (right_c _ _ (by decide) (by decide) _)))
          refine wpQuiet_nil ?_
          intro y
          have he2 := ext_ext w1 y
          have hV2 : (w1.ext y).heap[w.heap.size + 1]? = some (.cells (row32 64 (Sha.words l k)) 98 (0, 0)) := by
            rw [ext_heap w1 y _ h1s, HE1.out.block hVr]; exact HV.out
          have hR2 : (w1.ext y).heap[w.heap.size]? = some (.cells (row32 64 []) 98 (0, 0)) := by
            rw [ext_heap w1 y _ (by omega), HE1.out.block (by omega)]; exact HR.out
          generalize w1.ext y = w2 at *
          have hc1 : w2.cell? ⟨w.heap.size + 1, k, none⟩ = some z32 := row32_zero hV2 (by rw [Sha.words_length]; omega) (by omega)
          have hf1 : w2.frozen? ⟨w.heap.size + 1, k, none⟩ = false := frozen_of_row _ _ _ _ _ hV2
          have HE2 := Lib.hid he2
          have HV2 := Lib.hid hV2
          have HR2 := Lib.hid hR2
          clear he2 hV2 hR2 d15 d2 d16 d7
          go_wp2
          go_roundw
          case rel =>
            refine ⟨k + 1, by omega, by omega, by go_num, ?_, ?_, ?_⟩
            · exact ((HE.out.trans HE1.out).trans HE2.out).setCell_new trivial (by simp)
            · rw [heap_setCell_other _ _ _ _ (by simp)]; exact HR2.out
            · rw [heap_setCell_same _ _ _ _ _ _ HV2.out]
              have h := row32_push (n := 64) (l := Sha.words l k) (Sha.nxt l (Sha.words l k) k) (by rw [Sha.words_length]; omega)
              rw [Sha.words_length] at h
              show some (Obj.cells _ 98 (0, 0)) = some (Obj.cells (row32 64 (Sha.words l k ++ [Sha.nxt l (Sha.words l k) k])) 98 (0, 0))
              rw [← h]
              simp only [Sha.nxt, show ¬ k < 16 by omega, if_false, u32_shr3, u32_shr10, u32_xor, u32_add, m32_add]
              rfl
          case measure => simp [intOf]; omega
        · have hk64 : k = 64 := by omega
          subst hk64
          have HE := Lib.hid he
          have HR := Lib.hid hR
          have HV := Lib.hid hV
          clear he hR hV hlt hk1 hk2
          go_wp2_with (first | (refine wpl_load98 rfl _ rfl _ rfl _ (Nat.le_of_eq (Sha.words_length l 64)) HV.out ?_) | (refine wpl_store98 rfl _ _ rfl _ _ _ rfl rfl (Nat.le_of_eq (Sha.words_length l 64)) (by decide) HR.out ?_))
          exact ret98 rfl w.heap.size _ (Nat.le_of_eq (Sha.words_length l 64)) rfl (setRow_heap _ _ _ _ _ _ HR.out) rfl ⟨rfl, HE.out.setRow_new (Nat.le_refl _) _⟩
end Go.Proofs.Ytapojpjmeadabaa
end

section
/- sha.Hash.take: a block of 64 bytes goes into a Hash's state. -/
namespace Go.Proofs.Ytapojpjmeadabaa
open Go.RowKit
set_option linter.unusedVariables false
set_option linter.unusedSimpArgs false
attribute [local go_sem] lt_ext cell?_ext frozen?_ext shape?_ext u32_xor u32_or u32_and u32_not u32_not_max u32_add u32_wrap u8_wrap u32_shl24 u32_shl16 u32_shl8 u32_shr3 u32_shr10 u8_xor u8_or u32_of_u8 i32_mod i8_mod m32_add m32_shl24 m32_shl16 m32_shl8 m32_of_u8
theorem run_index98 (l : List (BitVec 32)) (k : Nat) (hk : k < l.length) (h64 : l.length = 64) (w : World) : (Instr.index 98 (.agg (row32 64 l)) (.int .i64 (k : Int))).run Try.prog w = .ok (W32 (l.getD k 0)) w := by
  have hc := row32_get (n := 64) hk
  simp [go_sem, Instr.index, hc]
  omega
def s8 (s : Sha.St) : Array Value := (s.toList.map W32).toArray
def mix (s x : Sha.St) (k : Nat) : List (BitVec 32) := (s.add x).toList.take k ++ s.toList.drop k
theorem mix_len (s x : Sha.St) (k : Nat) (hk : k ≤ 8) : (mix s x k).length = 8 := by simp [mix, Sha.St.toList]; omega
theorem below8 (k : Nat) (hk : k < 8) : k = 0 ∨ k = 1 ∨ k = 2 ∨ k = 3 ∨ k = 4 ∨ k = 5 ∨ k = 6 ∨ k = 7 := by omega
theorem mix_get (s x : Sha.St) (k : Nat) (hk : k < 8) : (mix s x k).getD k 0 = s.toList.getD k 0 := by
  rcases below8 k hk with h|h|h|h|h|h|h|h <;> subst h <;> rfl
theorem mix_set (s x : Sha.St) (k : Nat) (hk : k < 8) : (mix s x k).set k (s.toList.getD k 0 + x.toList.getD k 0) = mix s x (k + 1) := by
  rcases below8 k hk with h|h|h|h|h|h|h|h <;> subst h <;> rfl
theorem run_index100 (s : Sha.St) (k : Nat) (hk : k < 8) (w : World) : (Instr.index 100 (.agg #[W32 s.a, W32 s.b, W32 s.c, W32 s.d, W32 s.e, W32 s.f, W32 s.g, W32 s.h]) (.int .i64 (k : Int))).run Try.prog w = .ok (W32 (s.toList.getD k 0)) w := by
  rcases below8 k hk with h|h|h|h|h|h|h|h <;> subst h <;> simp [go_sem, Instr.index, Sha.St.toList]
theorem sum_eq (h r1 ch k w r2 mj : BitVec 32) : (i32 (h + r1) + i32 ch + i32 k + i32 w + i32 (r2 + mj)) % (4294967296 : Int) = i32 (h + r1 + ch + k + w + (r2 + mj)) := by
  simp only [← m32_add]
  omega
theorem sum_eq' (d h r1 ch k w : BitVec 32) : (i32 d + (i32 (h + r1) + i32 ch + i32 k + i32 w)) % (4294967296 : Int) = i32 (d + (h + r1 + ch + k + w)) := by
  simp only [← m32_add]
  omega
theorem store8 (w : World) (g : Nat) (s : Sha.St) (v0 v1 v2 v3 v4 v5 v6 v7 : Value) (h : w.heap[g]? = some (.cells (s8 s) 100 (0, 0))) :
    ((((((((w.setCell ⟨g, 0, none⟩ v0).setCell ⟨g, 1, none⟩ v1).setCell ⟨g, 2, none⟩ v2).setCell ⟨g, 3, none⟩ v3).setCell ⟨g, 4, none⟩ v4).setCell ⟨g, 5, none⟩ v5).setCell ⟨g, 6, none⟩ v6).setCell ⟨g, 7, none⟩ v7).heap[g]? =
      some (.cells #[v0, v1, v2, v3, v4, v5, v6, v7] 100 (0, 0)) := by
  have h0 := heap_setCell_same w g 0 _ _ v0 h
  have h1 := heap_setCell_same _ g 1 _ _ v1 h0
  have h2 := heap_setCell_same _ g 2 _ _ v2 h1
  have h3 := heap_setCell_same _ g 3 _ _ v3 h2
  have h4 := heap_setCell_same _ g 4 _ _ v4 h3
  have h5 := heap_setCell_same _ g 5 _ _ v5 h4
  have h6 := heap_setCell_same _ g 6 _ _ v6 h5
  have h7 := heap_setCell_same _ g 7 _ _ v7 h6
  rw [h7]
  simp [s8, Sha.St.toList]
set_option maxRecDepth 100000 in
set_option maxHeartbeats 1000000 in
theorem take_any (st : Sha.St) (l : List UInt8) (hl : l.length = 64) (hb b off cap kb : Nat) (rest : Value) (long : Int) (w : World) (hbl : b < w.heap.size)
    (hH : w.heap[hb]? = some (.cells (hcells st.toList rest (.int .u64 long) (.pointer (some ⟨kb, 0, none⟩))) 104 (0, 0)))
    (hK : w.heap[kb]? = some (.cells (row32 64 Sha.K) 98 (0, 0)))
    (hc : ∀ i, i < 64 → w.cell? ⟨b, off + i, none⟩ = some (B8 (l.getD i 0))) :
    Calls Try.prog 83 #[.pointer (some ⟨hb, 0, none⟩), .slice (some ⟨b, off, none⟩) 64 cap] w fun e w' => e = .returned (.tuple #[]) ∧
      w'.heap[hb]? = some (.cells (hcells (Sha.block st l).toList rest (.int .u64 long) (.pointer (some ⟨kb, 0, none⟩))) 104 (0, 0)) ∧ Upd w w' hb := by
  have hbh : hb < w.heap.size := (Array.getElem?_eq_some_iff.1 hH).1
  have hkh : kb < w.heap.size := (Array.getElem?_eq_some_iff.1 hK).1
  have g0 : w.cell? ⟨hb, 0, none⟩ = some (W32 st.a) := by rw [cell_of_row _ _ _ _ _ _ hH]; rfl
  have g1 : w.cell? ⟨hb, 1, none⟩ = some (W32 st.b) := by rw [cell_of_row _ _ _ _ _ _ hH]; rfl
  have g2 : w.cell? ⟨hb, 2, none⟩ = some (W32 st.c) := by rw [cell_of_row _ _ _ _ _ _ hH]; rfl
  have g3 : w.cell? ⟨hb, 3, none⟩ = some (W32 st.d) := by rw [cell_of_row _ _ _ _ _ _ hH]; rfl
  have g4 : w.cell? ⟨hb, 4, none⟩ = some (W32 st.e) := by rw [cell_of_row _ _ _ _ _ _ hH]; rfl
  have g5 : w.cell? ⟨hb, 5, none⟩ = some (W32 st.f) := by rw [cell_of_row _ _ _ _ _ _ hH]; rfl
  have g6 : w.cell? ⟨hb, 6, none⟩ = some (W32 st.g) := by rw [cell_of_row _ _ _ _ _ _ hH]; rfl
  have g7 : w.cell? ⟨hb, 7, none⟩ = some (W32 st.h) := by rw [cell_of_row _ _ _ _ _ _ hH]; rfl
  have HH := Lib.hid hH
  have HK := Lib.hid hK
  have HC := Lib.hid hc
  clear hH hK hc
  go_enter Try.func83, Try.ntmps83
  go_wp2_with fail
  refine (sched_any l hl b off cap _ (by simp; omega) (fun i hi => by rw [← HC.out i hi]; exact World.cell?_alloc_past _ _ _ hbl)).mono ?_
  rintro e w1 ⟨rfl, hx⟩
  have hS : w1.heap[w.heap.size]? = some (.cells (s8 st) 100 (0, 0)) := by rw [hx.block (by simp)]; exact heap_alloc_last w _
  have hx1 : Ext w w1 := ((Ext.refl w).alloc _).trans hx
  have HX := Lib.hid hx1
  have HS := Lib.hid hS
  clear hx hx1 hS g0 g1 g2 g3 g4 g5 g6 g7
  go_wp2_with fail
  go_loopw [19] (fun i wr => ∃ k : Nat, k ≤ 64 ∧ i = .int .i64 k ∧ Ext w wr ∧ wr.heap[w.heap.size]? = some (.cells (s8 (Sha.rounds st (Sha.words l 64) k)) 100 (0, 0)))
    (fun i _ => 64 - (intOf i).toNat)
  case atStart => exact ⟨0, by omega, rfl, HX.out, HS.out⟩
  case round =>
    clear HX HS
    obtain ⟨k, hk, rfl, he, hS⟩ := hrel
    by_cases hlt : k < 64
    · have hSr : w.heap.size < wr.heap.size := (Array.getElem?_eq_some_iff.1 hS).1
      have hhr : hb < wr.heap.size := Nat.lt_of_lt_of_le hbh he.size
      have hkr : kb < wr.heap.size := Nat.lt_of_lt_of_le hkh he.size
      generalize hst : Sha.rounds st (Sha.words l 64) k = s at hS
      have g0 : wr.cell? ⟨w.heap.size, 0, none⟩ = some (W32 s.a) := by rw [cell_of_row _ _ _ _ _ _ hS]; rfl
      have g1 : wr.cell? ⟨w.heap.size, 1, none⟩ = some (W32 s.b) := by rw [cell_of_row _ _ _ _ _ _ hS]; rfl
      have g2 : wr.cell? ⟨w.heap.size, 2, none⟩ = some (W32 s.c) := by rw [cell_of_row _ _ _ _ _ _ hS]; rfl
      have g3 : wr.cell? ⟨w.heap.size, 3, none⟩ = some (W32 s.d) := by rw [cell_of_row _ _ _ _ _ _ hS]; rfl
      have g4 : wr.cell? ⟨w.heap.size, 4, none⟩ = some (W32 s.e) := by rw [cell_of_row _ _ _ _ _ _ hS]; rfl
      have g5 : wr.cell? ⟨w.heap.size, 5, none⟩ = some (W32 s.f) := by rw [cell_of_row _ _ _ _ _ _ hS]; rfl
      have g6 : wr.cell? ⟨w.heap.size, 6, none⟩ = some (W32 s.g) := by rw [cell_of_row _ _ _ _ _ _ hS]; rfl
      have g7 : wr.cell? ⟨w.heap.size, 7, none⟩ = some (W32 s.h) := by rw [cell_of_row _ _ _ _ _ _ hS]; rfl
      have gk : wr.cell? ⟨hb, 10, none⟩ = some (.pointer (some ⟨kb, 0, none⟩)) := by rw [he.cell _ _ hbh, cell_of_row _ _ _ _ _ _ HH.out]; rfl
      have gK : wr.cell? ⟨kb, k, none⟩ = some (W32 (Sha.K.getD k 0)) := by rw [he.cell _ _ hkh, cell_of_row _ _ _ _ _ _ HK.out]; exact row32_get hlt
      have hix := run_index98 (Sha.words l 64) k (by rw [Sha.words_length]; exact hlt) (Sha.words_length l 64)
      have HE := Lib.hid he
      have HS := Lib.hid hS
      have HST := Lib.hid hst
      clear he hS hst
      go_wp2
      refine wp_region_qx (by kernel_rfl) (by kernel_rfl) ?_
      repeat (go_big_quiet_step (fail))
      refine wpQuiet_nil ?_
      intro x
      go_wp2
      refine wp_region_qx (by kernel_rfl) (by kernel_rfl) ?_
      repeat (go_big_quiet_step (exact Calls.in_ext_same (right_c _ _ (by decide) (by decide) _)))
      refine wpQuiet_nil ?_
      intro y
      obtain ⟨v, hv⟩ := ext_join wr x y
      rw [hv]
      clear hv y x
      go_wp2
      refine wp_region_qx (by kernel_rfl) (by kernel_rfl) ?_
      repeat (go_big_quiet_step (exact Calls.in_ext_same (right_c _ _ (by decide) (by decide) _)))
      refine wpQuiet_nil ?_
      intro y
      obtain ⟨x, hx⟩ := ext_join wr v y
      rw [hx]
      clear hx y v
      have hf : ∀ i, (wr.ext x).frozen? ⟨w.heap.size, i, none⟩ = false := fun i => frozen_of_row _ _ _ _ _ ((ext_heap wr x _ hSr).trans HS.out)
      go_wp2
      go_roundw
      case rel =>
        refine ⟨k + 1, by omega, by go_num, ?_, ?_⟩
        · repeat refine Ext.setCell_new ?_ trivial (Nat.le_refl _)
          exact HE.out.trans (ext_ext _ _)
        · have h0 := (ext_heap wr x _ hSr).trans HS.out
          rw [store8 _ _ _ _ _ _ _ _ _ _ _ h0, Sha.rounds, HST.out]
          rw [sum_eq, sum_eq']
          simp only [s8, Sha.St.toList, Sha.round, Sha.t1, Sha.t2, List.map_cons, List.map_nil, List.getD_eq_getElem?_getD]
          rfl
      case measure => simp [intOf]; omega
    · have hk64 : k = 64 := by omega
      subst hk64
      have HE := Lib.hid he
      generalize hst : Sha.rounds st (Sha.words l 64) 64 = s at hS
      have hSr : w.heap.size < wr.heap.size := (Array.getElem?_eq_some_iff.1 hS).1
      have g0 : wr.cell? ⟨w.heap.size, 0, none⟩ = some (W32 s.a) := by rw [cell_of_row _ _ _ _ _ _ hS]; rfl
      have g1 : wr.cell? ⟨w.heap.size, 1, none⟩ = some (W32 s.b) := by rw [cell_of_row _ _ _ _ _ _ hS]; rfl
      have g2 : wr.cell? ⟨w.heap.size, 2, none⟩ = some (W32 s.c) := by rw [cell_of_row _ _ _ _ _ _ hS]; rfl
      have g3 : wr.cell? ⟨w.heap.size, 3, none⟩ = some (W32 s.d) := by rw [cell_of_row _ _ _ _ _ _ hS]; rfl
      have g4 : wr.cell? ⟨w.heap.size, 4, none⟩ = some (W32 s.e) := by rw [cell_of_row _ _ _ _ _ _ hS]; rfl
      have g5 : wr.cell? ⟨w.heap.size, 5, none⟩ = some (W32 s.f) := by rw [cell_of_row _ _ _ _ _ _ hS]; rfl
      have g6 : wr.cell? ⟨w.heap.size, 6, none⟩ = some (W32 s.g) := by rw [cell_of_row _ _ _ _ _ _ hS]; rfl
      have g7 : wr.cell? ⟨w.heap.size, 7, none⟩ = some (W32 s.h) := by rw [cell_of_row _ _ _ _ _ _ hS]; rfl
      have HST := Lib.hid hst
      have hhr : hb < wr.heap.size := Nat.lt_of_lt_of_le hbh he.size
      have hH0 : wr.heap[hb]? = some (.cells (hcells st.toList rest (.int .u64 long) (.pointer (some ⟨kb, 0, none⟩))) 104 (0, 0)) := (he.block hbh).trans HH.out
      have hu0 : Upd w wr hb := Upd.of_ext he hb
      have HH0 := Lib.hid hH0
      have HU0 := Lib.hid hu0
      clear he hS hst hlt hk hH0 hu0 HH HK HC HE
      go_wp2
      go_loopw [106] (fun i ws => ∃ k : Nat, k ≤ 8 ∧ i = .int .i64 k ∧ Upd w ws hb ∧ ws.heap[hb]? = some (.cells (hcells (mix st s k) rest (.int .u64 long) (.pointer (some ⟨kb, 0, none⟩))) 104 (0, 0)))
        (fun i _ => 8 - (intOf i).toNat)
      case atStart => exact ⟨0, by omega, rfl, HU0.out, HH0.out⟩
      case round =>
        clear HU0 HH0 g0 g1 g2 g3 g4 g5 g6 g7
        obtain ⟨k, hk, rfl, he, hH⟩ := hrel
        rename_i ws
        by_cases hlt : k < 8
        · have hhs : hb < wr.heap.size := (Array.getElem?_eq_some_iff.1 hH).1
          have hix := run_index100 s k hlt
          have hc : wr.cell? ⟨hb, k, none⟩ = some (W32 (st.toList.getD k 0)) := by
            rw [cell_of_row _ _ _ _ _ _ hH, hcells_get (by rw [mix_len _ _ _ hk]; exact hlt), mix_get _ _ _ hlt]
          have hf : wr.frozen? ⟨hb, k, none⟩ = false := frozen_of_row _ _ _ _ _ hH
          have HE := Lib.hid he
          have HH := Lib.hid hH
          clear he hH
          go_wp2
          refine wp_region_qxt 11 (by kernel_rfl) (by kernel_rfl) ?_
          simp only [List.take_succ_cons, List.take_zero, List.drop_succ_cons, List.drop_zero]
          repeat (go_big_quiet_step (fail))
          refine wpQuiet_nil ?_
          intro x
          have hH1 := (ext_heap wr x _ hhs).trans HH.out
          have HX := Lib.hid (ext_ext wr x)
          have HH1 := Lib.hid hH1
          clear hH1
          go_wp2
          go_roundw
          case rel =>
            refine ⟨k + 1, by omega, by go_num, (HE.out.trans (Upd.of_ext HX.out hb)).setCell (.inl rfl) _, ?_⟩
            rw [heap_setCell_same _ _ _ _ _ _ HH1.out]
            have h := hcells_set (rest := rest) (long := .int .u64 long) (kp := .pointer (some ⟨kb, 0, none⟩)) (st.toList.getD k 0 + s.toList.getD k 0) (show k < (mix st s k).length by rw [mix_len _ _ _ hk]; exact hlt)
            rw [mix_set _ _ _ hlt] at h
            rw [← h]
            rfl
          case measure => simp [intOf]; omega
        · have hk8 : k = 8 := by omega
          subst hk8
          have HE := Lib.hid he
          have HH := Lib.hid hH
          clear he hH
          go_wp2
          go_end0
          refine ⟨rfl, ?_, HE.out⟩
          rw [HH.out]
          show _ = some (Obj.cells (hcells (st.add (Sha.rounds st (Sha.words l 64) 64)).toList _ _ _) 104 (0, 0))
          rw [HST.out]
          rfl
end Go.Proofs.Ytapojpjmeadabaa
end

section
/- Slices as the walks meet them: what a slice reads as; a slice that is one's own; the laws of append, slicing, len at a slice of whatever address. -/
namespace Go.Proofs.Ytapojpjmeadabaa
open Go.RowKit
set_option linter.unusedVariables false
set_option linter.unusedSimpArgs false
set_option maxRecDepth 100000

/-- 'v' is a slice of n elements of sz cells each, that reads as the cells xs. -/
structure Rd (w : World) (sz : Nat) (v : Value) (n : Nat) (xs : List Value) : Prop where
  len : xs.length = n * sz
  is : ∃ A cap, v = .slice A n cap ∧ n ≤ cap ∧ cap ≤ maxLen ∧ (A = none → cap = 0) ∧
    (0 < n → ∃ b o, A = some ⟨b, o, none⟩ ∧ b < w.heap.size ∧ ∀ j u, xs[j]? = some u → w.cell? ⟨b, o + j, none⟩ = some u)

theorem Rd.nil (w : World) (sz : Nat) : Rd w sz (.slice none 0 0) 0 [] := ⟨by simp, none, 0, rfl, Nat.le_refl _, Nat.zero_le _, fun _ => rfl, fun h => absurd h (Nat.lt_irrefl _)⟩
theorem Rd.mono {w w' : World} {sz n : Nat} {v : Value} {xs : List Value} (h : Rd w sz v n xs) (hk : ∀ b, b < w.heap.size → w'.heap[b]? = w.heap[b]?) : Rd w' sz v n xs := by
  obtain ⟨hl, A, cap, hv, h1, h2, h3, h4⟩ := h
  refine ⟨hl, A, cap, hv, h1, h2, h3, fun hn => ?_⟩
  obtain ⟨b, o, ha, hb, hc⟩ := h4 hn
  have hb' : b < w'.heap.size := by
    have := hk b hb
    rw [Array.getElem?_eq_getElem hb] at this
    exact (Array.getElem?_eq_some_iff.1 this).1
  exact ⟨b, o, ha, hb', fun j u hj => (World.cell?_of_block (hk b hb)).trans (hc j u hj)⟩
theorem Rd.ext {w w' : World} {sz n : Nat} {v : Value} {xs : List Value} (h : Rd w sz v n xs) (hx : Ext w w') : Rd w' sz v n xs := h.mono fun _ hb => hx.block hb
/-- The slice that is known to have an element: its address. -/
theorem Rd.pos {w : World} {sz n : Nat} {v : Value} {xs : List Value} (h : Rd w sz v n xs) (hn : 0 < n) :
    ∃ b o cap, v = .slice (some ⟨b, o, none⟩) n cap ∧ n ≤ cap ∧ cap ≤ maxLen ∧ b < w.heap.size ∧ ∀ j u, xs[j]? = some u → w.cell? ⟨b, o + j, none⟩ = some u := by
  obtain ⟨A, cap, hv, h1, h2, h3, h4⟩ := h.is
  obtain ⟨b, o, ha, hb, hc⟩ := h4 hn
  exact ⟨b, o, cap, by rw [hv, ha], h1, h2, hb, hc⟩
theorem Rd.lit {w : World} {sz b o n cap : Nat} {xs : List Value} (hl : xs.length = n * sz) (hn : n ≤ cap) (hc : cap ≤ maxLen) (hb : b < w.heap.size) (h : ∀ j u, xs[j]? = some u → w.cell? ⟨b, o + j, none⟩ = some u) :
    Rd w sz (.slice (some ⟨b, o, none⟩) n cap) n xs := ⟨hl, _, cap, rfl, hn, hc, (by intro e; cases e), fun _ => ⟨b, o, rfl, hb, h⟩⟩
theorem Rd.zero {w : World} {sz cap : Nat} {A : Option Addr} (hc : cap ≤ maxLen) (hA : A = none → cap = 0) : Rd w sz (.slice A 0 cap) 0 [] := ⟨by simp, A, cap, rfl, Nat.zero_le _, hc, hA, fun h => absurd h (Nat.lt_irrefl _)⟩
/-- A piece of it. -/
theorem Rd.sub {w : World} {sz n cap : Nat} {A : Option Addr} {xs : List Value} (h : Rd w sz (.slice A n cap) n xs) {l k : Nat} (hlk : l ≤ k) (hk : k ≤ n) :
    Rd w sz (.slice (if cap = l then A else A.map (·.add (l * sz))) (k - l) (cap - l)) (k - l) ((xs.take (k * sz)).drop (l * sz)) := by
  obtain ⟨hl, A', cap', hv, h1, h2, h3, h4⟩ := h
  injection hv with e1 e2 e3
  subst e1; subst e3
  have hks : k * sz ≤ n * sz := Nat.mul_le_mul_right _ hk
  refine ⟨by rw [List.length_drop, List.length_take, hl, Nat.min_eq_left hks, Nat.sub_mul], _, _, rfl, by omega, by omega, ?_, fun hn => ?_⟩
  · intro e
    by_cases hc : cap = l
    · omega
    · rw [if_neg hc] at e
      cases A with
      | none => have := h3 rfl; omega
      | some p => cases e
  · have hn' : 0 < n := by omega
    obtain ⟨b, o, ha, hb, hc⟩ := h4 hn'
    subst ha
    rw [if_neg (by omega)]
    refine ⟨b, o + l * sz, ?_, hb, fun j u hj => ?_⟩
    · simp only [Option.map_some, Option.some.injEq]
      unfold Addr.add
      split
      · rename_i e; rw [e]; rfl
      · rfl
    · rw [List.getElem?_drop] at hj
      have : xs[l * sz + j]? = some u := by
        rw [List.getElem?_take] at hj
        split at hj
        · exact hj
        · cases hj
      have := hc _ _ this
      rw [show o + l * sz + j = o + (l * sz + j) by omega]
      exact this

/-! ### The element types of this program -/
structure EI (t e : TypeId) (z : Value) (sz bytes : Nat) : Prop where
  t : Try.prog.underlying t = some (.slice e)
  info : (Try.prog.info? e).map (fun i => (i.zero, i.size, i.bytes)) = some (some z, sz, bytes)
  cells : z.cells.size = sz
  pos : 0 < sz
  lt : bytes ≤ 32768
theorem ei23 : EI 23 5 (.int .u8 0) 1 1 := ⟨Try.underlying23, by kernel_rfl, rfl, by decide, by decide⟩
theorem ei22 : EI 22 23 (.slice none 0 0) 1 24 := ⟨Try.underlying22, by kernel_rfl, rfl, by decide, by decide⟩
theorem ei96 : EI 96 95 (.int .u32 0) 1 4 := ⟨Try.underlying96, by kernel_rfl, rfl, by decide, by decide⟩
theorem ei127 : EI 127 3 (.int .i64 0) 1 8 := ⟨Try.underlying127, by kernel_rfl, rfl, by decide, by decide⟩
theorem ei38 : EI 38 50 (.agg #[.int .i64 0, .slice none 0 0]) 2 32 := ⟨Try.underlying38, by kernel_rfl, rfl, by decide, by decide⟩
theorem ei66 : EI 66 27 (.agg (Array.replicate 32 (.int .u8 0))) 32 32 := ⟨Try.underlying66, by kernel_rfl, by simp [Value.cells], by decide, by decide⟩

/-! ### Slicing -/
theorem EI.size {t e : TypeId} {z : Value} {sz bytes : Nat} (E : EI t e z sz bytes) (w : World) : (sizeOf e).run Try.prog w = .ok sz w := by
  have h := E.info
  cases hq : Try.prog.info? e with
  | none => simp [hq] at h
  | some i =>
    simp [hq] at h
    simp [sizeOf, typeInfo, hq, h]
/-- The bounds of a slice expression as operands: nothing, or a value that is a number. -/
def bnd (x : Option Value) (n : Nat) : Prop := ∀ v, x = some v → v = .int .i64 (n : Int)
theorem run_slice_rd {t e : TypeId} {z : Value} {sz bytes : Nat} (E : EI t e z sz bytes) {w : World} {v : Value} {n : Nat} {xs : List Value} (h : Rd w sz v n xs)
    (lo hi : Option Value) (l k : Nat) (hlo : lo = none ∧ l = 0 ∨ lo = some (.int .i64 (l : Int))) (hhi : hi = none ∧ k = n ∨ hi = some (.int .i64 (k : Int))) (hlk : l ≤ k) (hk : k ≤ n) :
    ∃ v', (Instr.slice t v lo hi none).run Try.prog w = .ok v' w ∧ Rd w sz v' (k - l) ((xs.take (k * sz)).drop (l * sz)) := by
  obtain ⟨A, cap, rfl, h1, h2, h3, h4⟩ := h.is
  refine ⟨_, ?_, h.sub hlk hk⟩
  have hb : ∀ (m : Nat) (c : BoundsCode) (y : Nat), m ≤ y → (Instr.sliceBound (.int .i64 (m : Int)) y c).run Try.prog w = .ok m w := by
    intro m c y hm
    simp [Instr.sliceBound, asIntOf]
    intro h
    omega
  have hbs : (Instr.sliceBounds true n cap lo hi none).run Try.prog w = .ok (l, k, cap) w := by
    have hkc : k ≤ cap := by omega
    unfold Instr.sliceBounds
    rcases hlo with ⟨rfl, rfl⟩ | rfl <;> rcases hhi with ⟨rfl, rfl⟩ | rfl <;> simp [Sem.run_bind, hb, hlk, hk, hkc, h1]
  simp [Instr.slice, Sem.run_bind, run_underlying E.t, hbs, E.size]

theorem wpList_slice_rd {t e : TypeId} {z : Value} {sz bytes : Nat} (E : EI t e z sz bytes) {ops : Array Oper} {rest : List Oper} {o : Oper} {a : Act} {w : World} {Q : Exit → Act → World → Prop} (hgd : o.guard = none)
    (x : Operand) (lo hi : Option Operand) (ho : o.op = .slice t x lo hi none) (v : Value) (hx : a.eval x = v) {n : Nat} {xs : List Value} (h : Rd w sz v n xs) (l k : Nat)
    (hlo : lo = none ∧ l = 0 ∨ lo.map a.eval = some (.int .i64 (l : Int))) (hhi : hi = none ∧ k = n ∨ hi.map a.eval = some (.int .i64 (k : Int))) (hlk : l ≤ k) (hk : k ≤ n)
    (hK : ∀ v', Rd w sz v' (k - l) ((xs.take (k * sz)).drop (l * sz)) → wpList Try.prog ops Q rest (a.put o.dst v') w) : wpList Try.prog ops Q (o :: rest) a w := by
  refine wpList_plain hgd fun K hKK => ?_
  obtain ⟨v', hr, hv'⟩ := run_slice_rd E h (lo.map a.eval) (hi.map a.eval) l k (by rcases hlo with ⟨rfl, rfl⟩ | h <;> simp_all) (by rcases hhi with ⟨rfl, rfl⟩ | h <;> simp_all) hlk hk
  have hr' : (Instr.sliceAt t v (lo.map a.eval) (hi.map a.eval) none).run Try.prog w = .ok v' w := by rw [← hr]; simp [Instr.sliceAt, run_underlying E.t]
  unfold Oper.wp execOp
  simp only [ho, hx, Option.map_none, Sem.run_bind, hr', Result.andThen_ok, Sem.run_pure, Oper.upon]
  exact hKK _ _ (hK v' hv')

/-! ### A slice that is one's own -/
abbrev Own (w : World) (e : TypeId) (sz : Nat) (v : Value) (n : Nat) (xs : List Value) : Prop := w.ownsRow 0 e sz v n xs
theorem Own.rd {w : World} {e : TypeId} {sz n : Nat} {v : Value} {xs : List Value} (h : Own w e sz v n xs) : Rd w sz v n xs := by
  obtain ⟨hl, h2⟩ := h
  rcases h2 with ⟨rfl, rfl⟩ | ⟨g, cap, cur, rfl, _, hg, h1, h2, hs, ht⟩
  · have : xs = [] := List.eq_nil_of_length_eq_zero (by simpa using hl)
    subst this
    exact Rd.nil w sz
  · refine Rd.lit hl h1 h2 (Array.getElem?_eq_some_iff.1 hg).1 fun j u hj => ?_
    rw [Nat.zero_add, cell_of_row _ _ _ _ _ _ hg]
    rw [← ht, List.getElem?_take] at hj
    split at hj
    · simpa using hj
    · cases hj
theorem Own.ext {w w' : World} {e : TypeId} {sz n : Nat} {v : Value} {xs : List Value} (h : Own w e sz v n xs) (hx : Ext w w') : Own w' e sz v n xs :=
  World.ownsRow.kept h (row := none) ⟨hx.os, hx.tape, hx.output, hx.size, fun k hk _ => hx.block hk⟩ (by cases v.ownBlock <;> simp)
theorem Own.keep {w w' : World} {e : TypeId} {sz n g : Nat} {v : Value} {xs : List Value} (h : Own w e sz v n xs) (hx : Upd w w' g) (hne : v.ownBlock ≠ some g) : Own w' e sz v n xs :=
  World.ownsRow.kept h hx (.inr hne)
theorem Own.not_block {w : World} {e T : TypeId} {sz n g : Nat} {v : Value} {xs : List Value} {c : Array Value} {fr : Nat × Nat} (h : Own w e sz v n xs) (hg : w.heap[g]? = some (.cells c T fr)) (hne : e ≠ T) : v.ownBlock ≠ some g := by
  intro hv
  obtain ⟨hl, h2⟩ := h
  rcases h2 with ⟨rfl, rfl⟩ | ⟨g', cap, cur, rfl, _, hg', _⟩
  · cases hv
  · injection hv with e1
    subst e1
    rw [hg'] at hg
    injection hg with e2
    injection e2 with e3 e4 e5
    exact hne e4
theorem Own.lt {w : World} {e : TypeId} {sz n g : Nat} {v : Value} {xs : List Value} (h : Own w e sz v n xs) (hv : v.ownBlock = some g) : g < w.heap.size := (World.ownsRow.lt h g hv).2
theorem Own.nil (w : World) (e : TypeId) (sz : Nat) : Own w e sz (.slice none 0 0) 0 [] := World.ownsRow_nil w 0 e sz

/-- What append leaves: the own block, and new ones. -/
abbrev Grew (w w' : World) (v : Value) : Prop := w.grownBy w' v.ownBlock
theorem run_append_rd {t e : TypeId} {z : Value} {sz bytes : Nat} (E : EI t e z sz bytes) (ty : TypeId) (w : World) (v : Value) (n : Nat) (xs : List Value) (hown : Own w e sz v n xs)
    (s : Value) (m : Nat) (ys : List Value) (hs : Rd w sz s m ys) (h1 : ∀ u ∈ ys, u.oneCell' = true) (h63 : n + m ≤ 4294967296) :
    ∃ v' w', (Builtin.append_ #[t, t] ty #[v, s]).run Try.prog w = .ok v' w' ∧ Own w' e sz v' (n + m) (xs ++ ys) ∧ Grew w w' v ∧ (v'.ownBlock = v.ownBlock ∨ ∀ g, v'.ownBlock = some g → w.heap.size ≤ g) := by
  obtain ⟨i, hi, hz0, hz1, hz2⟩ := info_parts E.info
  have hb : (n + m) * bytes ≤ 140737488355328 := Nat.le_trans (Nat.mul_le_mul h63 E.lt) (by decide)
  have h63' : n + m ≤ maxLen := Nat.le_trans h63 (by unfold maxLen; decide)
  have hnew : ∀ {w' : World} {v' : Value} {ys : List Value}, Own w' e sz v' (n + m) ys → w.grownBy w' v.ownBlock → (∀ g, v'.ownBlock = some g → g < w'.heap.size) := fun h _ g hg => h.lt hg
  obtain ⟨A, cap, rfl, h2, h3, h4, h5⟩ := hs.is
  have core : ∀ p : Addr, (∀ j u, ys[j]? = some u → w.cell? (p.add j) = some u) → ∃ v' w', (Builtin.append_ #[t, t] ty #[v, .slice (some p) m cap]).run Try.prog w = .ok v' w' ∧ Own w' e sz v' (n + m) (xs ++ ys) ∧ Grew w w' v ∧ (v'.ownBlock = v.ownBlock ∨ ∀ g, v'.ownBlock = some g → w.heap.size ≤ g) := by
    intro p hp
    rcases hown.2 with ⟨rfl, rfl⟩ | ⟨g, c, cur, rfl, _, hg, hnc, hcm, hcs, htake⟩
    · have hx : xs = [] := List.eq_nil_of_length_eq_zero (by simpa using hown.1)
      subst hx
      have ho : w.ownsRow w.heap.size e sz (.slice none 0 0) 0 [] := World.ownsRow_nil w _ _ _
      obtain ⟨v', w', hr, ho', hg', _⟩ := run_append_own (P := Try.prog) w w.heap.size t ty e i z sz bytes E.t hi hz0 hz1 hz2 E.cells E.pos (.slice none 0 0) 0 [] ho p m cap ys hs.len hp h1 h63' hb (Nat.le_refl _)
      refine ⟨v', w', hr, ?_, hg', .inr fun g hv => (World.ownsRow.lt ho' g hv).1⟩
      obtain ⟨ha, hb'⟩ := ho'
      refine ⟨ha, ?_⟩
      rcases hb' with h | ⟨g, c, cur, q1, _, q2⟩
      · exact .inl h
      · exact .inr ⟨g, c, cur, q1, Nat.zero_le _, q2⟩
    · by_cases hroom : n + m ≤ c
      · obtain ⟨w', hr, ho', hg'⟩ := run_append_fits (P := Try.prog) w 0 t ty e i sz E.t hi hz1 g n c xs hown p m cap ys hs.len hp h1 hroom
        exact ⟨_, w', hr, ho', hg', .inl rfl⟩
      · have holds : ∀ j u, xs[j]? = some u → w.cell? ((⟨g, 0, none⟩ : Addr).add j) = some u := hown.cells (g := g) rfl
        subst hz1
        subst hz2
        have hr := run_append_grow (P := Try.prog) w t ty e i z E.t hi hz0 ⟨g, 0, none⟩ n c xs hown.1 holds p m cap ys hs.len hp (by omega) (by unfold maxLen at h63'; omega) (growslice_fits (by omega) hb)
        refine ⟨_, _, hr, ?_, ⟨rfl, rfl, rfl, by simp, fun k hk _ => heap_alloc_old w.drew _ hk⟩, .inr fun g' hv => by injection hv with e1; subst e1; exact Nat.le_refl _⟩
        refine ⟨by rw [List.length_append, hown.1, hs.len, Nat.add_mul], .inr ⟨w.heap.size, _, _, rfl, Nat.zero_le _, heap_alloc_new w.drew _, grownCap_ge w (n + m) c e, grownCap_le_maxLen w (n + m) c e h63', ?_, ?_⟩⟩
        · have hzc := E.cells
          simp only [Array.size_append, List.size_toArray, size_zeroCells, hzc, hown.1, hs.len, ← Nat.add_mul]
          congr 1
          have := grownCap_ge w (n + m) c e
          omega
        · simp only [Array.toList_append, List.append_assoc]
          rw [← List.append_assoc]
          have : (xs ++ ys).length = (n + m) * i.size := by rw [List.length_append, hown.1, hs.len, Nat.add_mul]
          rw [← this]
          exact List.take_left
  cases A with
  | none =>
    have hc : cap = 0 := h4 rfl
    subst hc
    have hm : m = 0 := by omega
    subst hm
    have hys : ys = [] := List.eq_nil_of_length_eq_zero (by simpa using hs.len)
    subst hys
    exact ⟨v, w, run_append_owned_none w 0 t ty e i sz E.t hi v n xs hown, by simpa using hown, World.grownBy.refl _ _, .inl rfl⟩
  | some p =>
    refine core p fun j u hj => ?_
    by_cases hm : m = 0
    · subst hm
      have hys : ys = [] := List.eq_nil_of_length_eq_zero (by simpa using hs.len)
      subst hys
      cases hj
    · obtain ⟨b, o, ha, hb', hc⟩ := h5 (by omega)
      injection ha with ha
      subst ha
      rw [Addr.add_lit]
      exact hc j u hj

theorem wpList_append_rd {t e : TypeId} {z : Value} {sz bytes : Nat} (E : EI t e z sz bytes) {ops : Array Oper} {rest : List Oper} {o : Oper} {a : Act} {w : World} {Q : Exit → Act → World → Prop} (hgd : o.guard = none)
    (s x : Operand) (ho : o.op = .call { callee := .builtin .append, args := #[s, x], argTypes := #[t, t] }) (v : Value) (hs : a.eval s = v) {n : Nat} {xs : List Value} (hown : Own w e sz v n xs)
    (y : Value) (hx : a.eval x = y) {m : Nat} {ys : List Value} (hy : Rd w sz y m ys) (h1 : ∀ u ∈ ys, u.oneCell' = true) (h63 : n + m ≤ 4294967296)
    (hK : ∀ v' w', Own w' e sz v' (n + m) (xs ++ ys) → Grew w w' v → (v'.ownBlock = v.ownBlock ∨ ∀ g, v'.ownBlock = some g → w.heap.size ≤ g) → wpList Try.prog ops Q rest (a.put o.dst v') w') : wpList Try.prog ops Q (o :: rest) a w := by
  refine wpList_plain hgd fun K hKK => ?_
  obtain ⟨v', w', hr, h2, h3, h4⟩ := run_append_rd E o.type w v n xs hown y m ys hy h1 h63
  unfold Oper.wp execOp
  simp only [ho, resolve, invoke, builtin, Sem.run_bind, Sem.run_pure, Result.andThen_ok, List.map_toArray, List.map_cons, List.map_nil, hs, hx, hr]
  exact hKK _ _ (hK v' w' h2 h3 h4)

/-! ### Worlds in which some old blocks have turned -/
structure Chg (w w' : World) (S : Nat → Prop) : Prop where
  os : w'.os = w.os
  tape : w'.tape = w.tape
  output : w'.output = w.output
  size : w.heap.size ≤ w'.heap.size
  block : ∀ k, k < w.heap.size → ¬ S k → w'.heap[k]? = w.heap[k]?
theorem Chg.refl (w : World) (S : Nat → Prop) : Chg w w S := ⟨rfl, rfl, rfl, Nat.le_refl _, fun _ _ _ => rfl⟩
theorem Chg.trans {a b c : World} {S T : Nat → Prop} (h : Chg a b S) (k : Chg b c T) (hT : ∀ i, i < a.heap.size → T i → S i) : Chg a c S :=
  ⟨k.os.trans h.os, k.tape.trans h.tape, k.output.trans h.output, Nat.le_trans h.size k.size, fun i hi hn => (k.block i (Nat.lt_of_lt_of_le hi h.size) fun ht => hn (hT i hi ht)).trans (h.block i hi hn)⟩
theorem Chg.of_ext {a b : World} (h : Ext a b) (S : Nat → Prop) : Chg a b S := ⟨h.os, h.tape, h.output, h.size, fun k hk _ => h.block hk⟩
theorem Chg.ext {a b : World} {S : Nat → Prop} (h : Chg a b S) (hS : ∀ k, S k → a.heap.size ≤ k) : Ext a b := ⟨h.os, h.tape, h.output, h.size, fun k hk => h.block k hk fun hs => by have := hS k hs; omega⟩
theorem Chg.of_upd {a b : World} {g : Nat} (h : Upd a b g) : Chg a b (· = g) := ⟨h.os, h.tape, h.output, h.size, fun k hk hn => h.block k hk fun e => hn (by injection e)⟩
theorem Chg.of_grew {a b : World} {v : Value} (h : Grew a b v) : Chg a b (fun k => some k = v.ownBlock) := ⟨h.os, h.tape, h.output, h.size, fun k hk hn => h.block k hk hn⟩
theorem Chg.upd {a b : World} {g : Nat} (h : Chg a b (· = g)) : Upd a b g := ⟨h.os, h.tape, h.output, h.size, fun k hk hn => h.block k hk fun e => hn (by rw [e])⟩
theorem Grew.ext {a b : World} {v : Value} (h : Grew a b v) (hv : ∀ g, v.ownBlock = some g → a.heap.size ≤ g) : Ext a b := (Chg.of_grew h).ext fun k hk => hv k hk.symm
theorem Grew.ext_nil {a b : World} {c : Nat} (h : Grew a b (.slice none 0 c)) : Ext a b := Grew.ext h fun g hg => nomatch hg
theorem Rd.chg {w w' : World} {sz n : Nat} {v : Value} {xs : List Value} {S : Nat → Prop} (h : Rd w sz v n xs) (hc : Chg w w' S) (hv : ∀ b o c, v = .slice (some ⟨b, o, none⟩) n c → 0 < n → ¬ S b) : Rd w' sz v n xs := by
  obtain ⟨hl, A, cap, hv', h1, h2, h3, h4⟩ := h
  refine ⟨hl, A, cap, hv', h1, h2, h3, fun hn => ?_⟩
  obtain ⟨b, o, ha, hb, hcell⟩ := h4 hn
  have := hc.block b hb (hv b o cap (by rw [hv', ha]) hn)
  refine ⟨b, o, ha, Nat.lt_of_lt_of_le hb hc.size, fun j u hj => (World.cell?_of_block this).trans (hcell j u hj)⟩
theorem Own.chg {w w' : World} {e : TypeId} {sz n : Nat} {v : Value} {xs : List Value} {S : Nat → Prop} (h : Own w e sz v n xs) (hc : Chg w w' S) (hv : ∀ g, v.ownBlock = some g → ¬ S g) : Own w' e sz v n xs := by
  obtain ⟨hl, h2⟩ := h
  refine ⟨hl, ?_⟩
  rcases h2 with h2 | ⟨g, cap, cur, q1, q2, hg, q3⟩
  · exact .inl h2
  · refine .inr ⟨g, cap, cur, q1, q2, ?_, q3⟩
    rw [hc.block g (Array.getElem?_eq_some_iff.1 hg).1 (hv g (by rw [q1]; rfl))]
    exact hg
/-! ### Bytes -/
abbrev Bs (w : World) (v : Value) (l : List UInt8) : Prop := Rd w 1 v l.length (l.map B8)
abbrev OwnB (w : World) (v : Value) (l : List UInt8) : Prop := Own w 5 1 v l.length (l.map B8)
theorem one_bytes (l : List UInt8) : ∀ u ∈ l.map B8, u.oneCell' = true := by
  intro u hu
  obtain ⟨x, _, rfl⟩ := List.mem_map.1 hu
  rfl
theorem Bs.sub_list (l : List UInt8) (i k : Nat) : ((l.map B8).take (k * 1)).drop (i * 1) = ((l.take k).drop i).map B8 := by simp
theorem Bs.of_rd {w : World} {v : Value} {n : Nat} {l l' : List UInt8} (h : Rd w 1 v n (l.map B8)) (hn : n = l'.length) (hl : l = l') : Bs w v l' := by subst hl; subst hn; exact h
theorem Bs.cell {w : World} {b o : Nat} {l : List UInt8} (h : ∀ j u, (l.map B8)[j]? = some u → w.cell? ⟨b, o + j, none⟩ = some u) (i : Nat) (hi : i < l.length) : w.cell? ⟨b, o + i, none⟩ = some (B8 (l.getD i 0)) :=
  h i _ (by simp [hi])

theorem wpList_slice_bs {ops : Array Oper} {rest : List Oper} {o : Oper} {a : Act} {w : World} {Q : Exit → Act → World → Prop} (hgd : o.guard = none)
    (x : Operand) (lo hi : Option Operand) (ho : o.op = .slice 23 x lo hi none) (v : Value) (hx : a.eval x = v) {l : List UInt8} (h : Bs w v l) (i k : Nat)
    (hlo : lo = none ∧ i = 0 ∨ lo.map a.eval = some (.int .i64 (i : Int))) (hhi : hi = none ∧ k = l.length ∨ hi.map a.eval = some (.int .i64 (k : Int))) (hlk : i ≤ k) (hk : k ≤ l.length)
    (hK : ∀ v', Bs w v' ((l.take k).drop i) → wpList Try.prog ops Q rest (a.put o.dst v') w) : wpList Try.prog ops Q (o :: rest) a w :=
  wpList_slice_rd ei23 hgd x lo hi ho v hx h i k hlo hhi hlk hk fun v' hv' => hK v' (by
    have e : ((l.take k).drop i).length = k - i := by simp; omega
    unfold Bs
    rw [e]
    simpa using hv')
theorem wpList_append_bs {ops : Array Oper} {rest : List Oper} {o : Oper} {a : Act} {w : World} {Q : Exit → Act → World → Prop} (hgd : o.guard = none)
    (s x : Operand) (ho : o.op = .call { callee := .builtin .append, args := #[s, x], argTypes := #[23, 23] }) (v : Value) (hs : a.eval s = v) {l : List UInt8} (hown : OwnB w v l)
    (y : Value) (hx : a.eval x = y) {l' : List UInt8} (hy : Bs w y l') (h63 : l.length + l'.length ≤ 4294967296)
    (hK : ∀ v' w', OwnB w' v' (l ++ l') → Grew w w' v → (v'.ownBlock = v.ownBlock ∨ ∀ g, v'.ownBlock = some g → w.heap.size ≤ g) → wpList Try.prog ops Q rest (a.put o.dst v') w') : wpList Try.prog ops Q (o :: rest) a w :=
  wpList_append_rd ei23 hgd s x ho v hs hown y hx hy (one_bytes l') h63 fun v' w' h1 h2 h3 => hK v' w' (by unfold OwnB; rw [List.length_append, List.map_append]; exact h1) h2 h3
/-- append([]byte(nil), ..): new bytes. -/
theorem wpList_append_nil_bs {ops : Array Oper} {rest : List Oper} {o : Oper} {a : Act} {w : World} {Q : Exit → Act → World → Prop} (hgd : o.guard = none)
    (x : Operand) (ho : o.op = .call { callee := .builtin .append, args := #[.const (.slice none 0 0), x], argTypes := #[23, 23] })
    (y : Value) (hx : a.eval x = y) {l' : List UInt8} (hy : Bs w y l') (h63 : l'.length ≤ 4294967296)
    (hK : ∀ v' w', OwnB w' v' l' → Ext w w' → (∀ g, v'.ownBlock = some g → w.heap.size ≤ g) → wpList Try.prog ops Q rest (a.put o.dst v') w') : wpList Try.prog ops Q (o :: rest) a w :=
  wpList_append_bs hgd _ x ho _ rfl (l := []) (Own.nil w 5 1) y hx hy (by simpa using h63) fun v' w' h1 h2 h3 => hK v' w' h1 (Chg.ext (Chg.of_grew h2) fun k hk => nomatch hk) (h3.elim (fun e g hg => by rw [e] at hg; cases hg) id)
theorem Bs.pos {w : World} {v : Value} {l : List UInt8} (h : Bs w v l) (hn : 0 < l.length) :
    ∃ b o cap, v = .slice (some ⟨b, o, none⟩) l.length cap ∧ l.length ≤ cap ∧ cap ≤ maxLen ∧ b < w.heap.size ∧ ∀ i, i < l.length → w.cell? ⟨b, o + i, none⟩ = some (B8 (l.getD i 0)) := by
  obtain ⟨b, o, cap, h1, h2, h3, h4, h5⟩ := Rd.pos h hn
  exact ⟨b, o, cap, h1, h2, h3, h4, Bs.cell h5⟩

end Go.Proofs.Ytapojpjmeadabaa
end

section
/- sha.Hash: what a Hash was told; Write. -/
namespace Go.Proofs.Ytapojpjmeadabaa
open Go.RowKit
set_option linter.unusedVariables false
set_option linter.unusedSimpArgs false
attribute [local go_sem] lt_ext cell?_ext frozen?_ext shape?_ext

/-- The cells of a Hash that has taken the blocks of p, with 'rv' for what is left, told 'n' bytes in all. -/
abbrev hobj (p : List UInt8) (rv : Value) (n : Nat) (kb : Nat) : Obj :=
  .cells (hcells (Sha.foldN (p.length / 64) Sha.init p).toList rv (.int .u64 (n : Int)) (.pointer (some ⟨kb, 0, none⟩))) 104 (0, 0)
/-- At block hb lies a Hash that was told m; 'rv' is what it keeps of it. -/
structure HashAt (w : World) (hb kb : Nat) (rv : Value) (m : List UInt8) : Prop where
  ex : ∃ p r, m = p ++ r ∧ p.length % 64 = 0 ∧ r.length < 64 ∧ w.heap[hb]? = some (hobj p rv m.length kb) ∧ OwnB w rv r
  k : w.heap[kb]? = some (.cells (row32 64 Sha.K) 98 (0, 0))
  le : m.length ≤ 4294967296

theorem HashAt.lt {w : World} {hb kb : Nat} {rv : Value} {m : List UInt8} (h : HashAt w hb kb rv m) : hb < w.heap.size := by
  obtain ⟨p, r, _, _, _, hh, _⟩ := h.ex
  exact (Array.getElem?_eq_some_iff.1 hh).1
theorem HashAt.klt {w : World} {hb kb : Nat} {rv : Value} {m : List UInt8} (h : HashAt w hb kb rv m) : kb < w.heap.size := (Array.getElem?_eq_some_iff.1 h.k).1
theorem HashAt.rlt {w : World} {hb kb g : Nat} {rv : Value} {m : List UInt8} (h : HashAt w hb kb rv m) (hg : rv.ownBlock = some g) : g < w.heap.size := by
  obtain ⟨p, r, _, _, _, hh, ho⟩ := h.ex
  exact Own.lt ho hg
theorem HashAt.chg {w w' : World} {hb kb : Nat} {rv : Value} {m : List UInt8} {S : Nat → Prop} (h : HashAt w hb kb rv m) (hc : Chg w w' S) (h1 : ¬ S hb) (h2 : ¬ S kb) (h3 : ∀ g, rv.ownBlock = some g → ¬ S g) : HashAt w' hb kb rv m := by
  obtain ⟨p, r, q1, q2, q3, hh, ho⟩ := h.ex
  exact ⟨⟨p, r, q1, q2, q3, (hc.block _ (Array.getElem?_eq_some_iff.1 hh).1 h1).trans hh, Own.chg ho hc h3⟩, (hc.block _ (Array.getElem?_eq_some_iff.1 h.k).1 h2).trans h.k, h.le⟩
theorem HashAt.ext {w w' : World} {hb kb : Nat} {rv : Value} {m : List UInt8} (h : HashAt w hb kb rv m) (hx : Ext w w') : HashAt w' hb kb rv m :=
  h.chg (Chg.of_ext hx fun _ => False) id id fun _ _ => id
/-- What a Write may turn. -/
def hset (hb : Nat) (rv : Value) : Nat → Prop := fun k => k = hb ∨ some k = rv.ownBlock

/-- No cell of a Hash is a byte. -/
theorem hobj_no_byte {w : World} {hb n kb i : Nat} {p : List UInt8} {rv : Value} (hh : w.heap[hb]? = some (hobj p rv n kb)) (hr : ∃ A l c, rv = .slice A l c) (x : UInt8) : w.cell? ⟨hb, i, none⟩ ≠ some (B8 x) := by
  obtain ⟨A, l, c, rfl⟩ := hr
  rw [cell_of_row _ _ _ _ _ _ hh]
  simp only [hcells, List.getElem?_toArray]
  intro h
  have hm := List.mem_of_getElem? h
  simp only [List.mem_append, List.mem_map, List.mem_cons, List.mem_nil_iff, or_false] at hm
  rcases hm with ⟨y, _, hy⟩ | hm | hm | hm
  · cases hy
  · cases hm
  · cases hm
  · cases hm
theorem Bs.ne_hash {w : World} {hb n kb : Nat} {p : List UInt8} {rv bv : Value} {l r : List UInt8} (hB : Bs w bv l) (hh : w.heap[hb]? = some (hobj p rv n kb)) (ho : OwnB w rv r) :
    ∀ b o c, bv = .slice (some ⟨b, o, none⟩) l.length c → 0 < l.length → b ≠ hb := by
  intro b o c hv hl e
  subst e
  obtain ⟨b', o', c', hv', _, _, _, hcell⟩ := hB.pos hl
  rw [hv] at hv'
  injection hv' with e1 e2 e3
  injection e1 with e1
  injection e1 with e4 e5
  subst e4
  refine hobj_no_byte hh ?_ _ (hcell 0 hl)
  obtain ⟨A, cap, h, _⟩ := ho.rd.is
  exact ⟨A, _, cap, h⟩

theorem hobj_set8 {w : World} {hb n kb : Nat} {p : List UInt8} {rv v : Value} (hh : w.heap[hb]? = some (hobj p rv n kb)) : (w.setCell ⟨hb, 8, none⟩ v).heap[hb]? = some (hobj p v n kb) := by
  rw [heap_setCell_same _ _ _ _ _ _ hh]
  simp [hcells, Sha.St.toList]
theorem hobj_cell8 {w : World} {hb n kb : Nat} {p : List UInt8} {rv : Value} (hh : w.heap[hb]? = some (hobj p rv n kb)) : w.cell? ⟨hb, 8, none⟩ = some rv := by rw [cell_of_row _ _ _ _ _ _ hh]; rfl
/-- In the middle of a Write: p is taken, r is left. -/
structure WMid (w : World) (hb kb : Nat) (rv : Value) (ml p r : List UInt8) (v : Value) (wr : World) : Prop where
  eq : ml = p ++ r
  mod : p.length % 64 = 0
  obj : wr.heap[hb]? = some (hobj p v ml.length kb)
  own : OwnB wr v r
  chg : Chg w wr (hset hb rv)
  same : v.ownBlock = rv.ownBlock ∨ ∀ g, v.ownBlock = some g → w.heap.size ≤ g
  k : wr.heap[kb]? = some (.cells (row32 64 Sha.K) 98 (0, 0))
theorem WMid.ne {w : World} {hb kb : Nat} {rv : Value} {ml p r : List UInt8} {v : Value} {wr : World} (h : WMid w hb kb rv ml p r v wr) : kb ≠ hb := by
  intro e
  have h1 := h.k
  rw [e, h.obj] at h1
  injection h1 with e1
  injection e1 with e2 e3
  cases e3
/-- A block has been taken, what is left lies in new memory. -/
theorem WMid.next {w : World} {hb kb : Nat} {rv : Value} {ml p r : List UInt8} {v : Value} {wr w2 w3 : World} (h : WMid w hb kb rv ml p r v wr) (hr : 64 ≤ r.length)
    (h2 : w2.heap[hb]? = some (.cells (hcells (Sha.block (Sha.foldN (p.length / 64) Sha.init p) (r.take 64)).toList v (.int .u64 (ml.length : Int)) (.pointer (some ⟨kb, 0, none⟩))) 104 (0, 0))) (hu : Upd wr w2 hb)
    (v3 : Value) (ho3 : OwnB w3 v3 (r.drop 64)) (hx : Ext w2 w3) (hn3 : ∀ g, v3.ownBlock = some g → w2.heap.size ≤ g) :
    WMid w hb kb rv ml (p ++ r.take 64) (r.drop 64) v3 (w3.setCell ⟨hb, 8, none⟩ v3) := by
  have hhb : hb < w2.heap.size := (Array.getElem?_eq_some_iff.1 h2).1
  have hhr : hb < wr.heap.size := (Array.getElem?_eq_some_iff.1 h.obj).1
  have hpl : (p ++ r.take 64).length = p.length + 64 := by simp; omega
  have hd : (p ++ r.take 64).length / 64 = p.length / 64 + 1 := by omega
  have hf := Sha.foldN_snoc (p.length / 64) Sha.init p (r.take 64) (by have := h.mod; omega) (by simp; omega)
  have hobj3 : w3.heap[hb]? = some (hobj (p ++ r.take 64) v ml.length kb) := by
    rw [hx.block hhb, h2]
    simp only [hobj, hd, hf]
  have hu3 : Chg wr (w3.setCell ⟨hb, 8, none⟩ v3) (· = hb) := Chg.of_upd (((hu.trans (Upd.of_ext hx hb))).setCell (.inl rfl) _)
  have hu34 : Upd w3 (w3.setCell ⟨hb, 8, none⟩ v3) hb := (Upd.of_ext (Ext.refl _) hb).setCell (.inl rfl) _
  have hnb : v3.ownBlock ≠ some hb := fun e => by have := hn3 _ e; omega
  refine ⟨by rw [h.eq, List.append_assoc, List.take_append_drop], by rw [hpl]; have := h.mod; omega, hobj_set8 hobj3, Own.keep ho3 hu34 hnb, h.chg.trans hu3 fun i _ e => .inl e, .inr fun g hg => ?_, ?_⟩
  · have := hn3 g hg
    exact Nat.le_trans h.chg.size (Nat.le_trans hu.size this)
  · rw [hu3.block _ (Array.getElem?_eq_some_iff.1 h.k).1 h.ne]
    exact h.k
/-- At the start: all of l has been appended. -/
theorem WMid.start {w w0 w1 : World} {hb kb : Nat} {rv v : Value} {m l p r : List UInt8} (hm : m = p ++ r) (hp : p.length % 64 = 0) (hb0 : hb < w.heap.size)
    (hk : w.heap[kb]? = some (.cells (row32 64 Sha.K) 98 (0, 0))) (hu : Upd w w0 hb) (hg : Grew w0 w1 rv) (hh : w1.heap[hb]? = some (hobj p rv (m ++ l).length kb)) (ho : OwnB w1 v (r ++ l))
    (hf : v.ownBlock = rv.ownBlock ∨ ∀ g, v.ownBlock = some g → w0.heap.size ≤ g) (hN : rv.ownBlock ≠ some hb) (hKN : rv.ownBlock ≠ some kb) (hKE : kb ≠ hb) :
    WMid w hb kb rv (m ++ l) p (r ++ l) v (w1.setCell ⟨hb, 8, none⟩ v) := by
  have hu3 : Upd w1 (w1.setCell ⟨hb, 8, none⟩ v) hb := (Upd.of_ext (Ext.refl w1) hb).setCell (.inl rfl) _
  have hkh : kb < w.heap.size := (Array.getElem?_eq_some_iff.1 hk).1
  have hc : Chg w (w1.setCell ⟨hb, 8, none⟩ v) (hset hb rv) :=
    (Chg.trans (S := hset hb rv) ⟨hu.os, hu.tape, hu.output, hu.size, fun k hk hn => hu.old hk fun e => hn (.inl e)⟩ (Chg.of_grew hg) fun _ _ e => .inr e).trans (Chg.of_upd hu3) fun _ _ e => .inl e
  refine ⟨by rw [hm, List.append_assoc], hp, hobj_set8 hh, Own.keep ho hu3 ?_, hc, ?_, ?_⟩
  · rcases hf with h | h
    · rw [h]; exact hN
    · intro e
      have := h _ e
      have := hu.size
      omega
  · rcases hf with h | h
    · exact .inl h
    · exact .inr fun g hg' => Nat.le_trans hu.size (h g hg')
  · rw [hc.block kb hkh]
    · exact hk
    · rintro (e | e)
      · exact hKE e
      · exact hKN e.symm
/-- At the end of a Write. -/
theorem WMid.done {w : World} {hb kb : Nat} {rv : Value} {ml p r : List UInt8} {v : Value} {wr : World} (h : WMid w hb kb rv ml p r v wr) (hr : r.length < 64) (hle : ml.length ≤ 4294967296) :
    ∃ rv', HashAt wr hb kb rv' ml ∧ Chg w wr (hset hb rv) ∧ (rv'.ownBlock = rv.ownBlock ∨ ∀ g, rv'.ownBlock = some g → w.heap.size ≤ g) :=
  ⟨v, ⟨⟨p, r, h.eq, h.mod, hr, h.obj, h.own⟩, h.k, hle⟩, h.chg, h.same⟩

set_option maxRecDepth 100000 in
set_option maxHeartbeats 1000000 in
theorem write_any (hb kb : Nat) (rv bv : Value) (m l : List UInt8) (w : World) (hH : HashAt w hb kb rv m) (hB : Bs w bv l) (hle : m.length + l.length ≤ 4294967296) :
    Calls Try.prog 33 #[.pointer (some ⟨hb, 0, none⟩), bv] w fun e w' => e = .returned (.tuple #[]) ∧
      ∃ rv', HashAt w' hb kb rv' (m ++ l) ∧ Chg w w' (hset hb rv) ∧ (rv'.ownBlock = rv.ownBlock ∨ ∀ g, rv'.ownBlock = some g → w.heap.size ≤ g) := by
  have hbh := hH.lt
  have hkh := hH.klt
  obtain ⟨p, r, hm, hp, hr, hh, ho⟩ := hH.ex
  have hkk := hH.k
  have hkne : kb ≠ hb := by
    rintro rfl
    rw [hkk] at hh
    injection hh with e1
    injection e1 with e2 e3
    cases e3
  have hne := hB.ne_hash hh ho
  obtain ⟨A, cap, rfl, hcap, hcm, hA, hAc⟩ := hB.is
  have hon := Own.not_block ho hh (by decide)
  have hkn : rv.ownBlock ≠ some kb := Own.not_block ho hkk (by decide)
  have g8 : w.cell? ⟨hb, 8, none⟩ = some rv := by rw [cell_of_row _ _ _ _ _ _ hh]; rfl
  have g9 : w.cell? ⟨hb, 9, none⟩ = some (.int .u64 (m.length : Int)) := by rw [cell_of_row _ _ _ _ _ _ hh]; rfl
  have gf : ∀ i, w.frozen? ⟨hb, i, none⟩ = false := fun i => frozen_of_row _ _ _ _ _ hh
  -- the world behind 'h.long += ..'
  have hu1 : Upd w (w.setCell ⟨hb, 9, none⟩ (.int .u64 ((m.length : Int) + (l.length : Int)))) hb := (Upd.of_ext (Ext.refl w) hb).setCell (.inl rfl) _
  have hh1 : (w.setCell ⟨hb, 9, none⟩ (.int .u64 ((m.length : Int) + (l.length : Int)))).heap[hb]? = some (hobj p rv (m ++ l).length kb) := by
    rw [heap_setCell_same _ _ _ _ _ _ hh]
    have : ((m.length : Int) + (l.length : Int)) = (((m ++ l).length : Nat) : Int) := by simp
    rw [this]
    rfl
  have hrl : r.length ≤ m.length := by rw [hm]; simp
  have HH1 := Lib.hid hh1
  have HU1 := Lib.hid hu1
  have HO1 := Lib.hid (Own.keep ho hu1 hon)
  have HB1 := Lib.hid (Rd.chg hB (Chg.of_upd hu1) hne)
  have HK := Lib.hid hkk
  have HO := Lib.hid ho
  have HM := Lib.hid hm
  have HP := Lib.hid hp
  have HN := Lib.hid hon
  have HKN := Lib.hid hkn
  have HKE := Lib.hid hkne
  clear hh hkk ho hB hm hp hH hAc hA hne hu1 hh1 hon hkn hkne
  go_enter Try.func33, Try.ntmps33
  go_step3
  go_wp2_with (at_builtin; go_must (refine wpList_append_rd ei23 rfl _ _ rfl _ rfl HO1.out _ rfl HB1.out (one_bytes l) (by omega) ?_; intro v1 w1 ho1 hg1 hf1; obtain ⟨A1, c1, hv1, _⟩ := ho1.rd.is; subst hv1; have hh2 : w1.heap[hb]? = _ := ((Chg.of_grew hg1).block hb (by simpa using hbh) (fun e => HN.out e.symm)).trans HH1.out; have g82 : w1.cell? ⟨hb, 8, none⟩ = some rv := (by rw [cell_of_row _ _ _ _ _ _ hh2]; rfl); have gf2 : w1.frozen? ⟨hb, 8, none⟩ = false := frozen_of_row _ _ _ _ _ hh2; have HO2 := Lib.hid ho1; have HG2 := Lib.hid hg1; have HF2 := Lib.hid hf1; have HH2 := Lib.hid hh2; clear ho1 hg1 hf1 hh2 g8 g9 gf))
  go_step3
  go_wp2_with fail
  have hstart : WMid w hb kb rv (m ++ l) p (r ++ l) (.slice A1 (r.length + l.length) c1) (w1.setCell ⟨hb, 8, none⟩ (.slice A1 (r.length + l.length) c1)) := by
    exact WMid.start HM.out HP.out hbh HK.out HU1.out HG2.out HH2.out (by have h := HO2.out; simpa [OwnB] using h) HF2.out HN.out HKN.out HKE.out
  go_loopg [] (r ++ l).length (fun kq wr => ∃ p r v, WMid w hb kb rv (m ++ l) p r v wr ∧ r.length = kq)
  case atStart => exact ⟨p, _, _, hstart, rfl⟩
  case round =>
    clear hstart HO2 HG2 HF2 HH2 HH1 HU1 HO1 HB1 HK HO HM HP HN HKN HKE g82 gf2
    obtain ⟨p, r, v, hmid, hrk⟩ := hrel
    have HMID := Lib.hid hmid
    have HRK := Lib.hid hrk
    obtain ⟨A2, c2, hv2, hn2, hc2, _⟩ := hmid.own.rd.is
    subst hv2
    have g8 := hobj_cell8 hmid.obj
    have hbr : hb < wr.heap.size := (Array.getElem?_eq_some_iff.1 hmid.obj).1
    have HRD := Lib.hid hmid.own.rd
    clear hmid hrk
    by_cases hlt : r.length < 64
    · go_wp2_with fail
      rw [Exit.noGoto_normal]
      go_end0
      exact ⟨rfl, WMid.done HMID.out hlt (by simpa using hle)⟩
    · have hl64 : ((r.take 64).drop 0).length = 64 := by simp; omega
      have hrle : r.length ≤ 4294967296 := by
        have := congrArg List.length HMID.out.eq
        simp at this
        omega
      have hnb := Lib.hid (Own.not_block HMID.out.own HMID.out.obj (by decide))
      go_wp2_with (first
        | (go_at_call 83; go_must (refine (take_any _ ((r.take 64).drop 0) hl64 hb b1 o1 cp1 kb _ _ _ hb1 HMID.out.obj HMID.out.k (fun i hi => HC1.out i (Nat.lt_of_lt_of_eq hi hl64.symm))).mono ?_; rintro e w2 ⟨rfl, h2, hu2⟩; have g82 : w2.cell? ⟨hb, 8, none⟩ = some (.slice A2 r.length c2) := (by rw [cell_of_row _ _ _ _ _ _ h2]; rfl); have HB2 := Lib.hid (show Bs w2 (.slice A2 r.length c2) r from Own.rd (Own.keep HMID.out.own hu2 hnb.out)); have H2 := Lib.hid h2; have HU2 := Lib.hid hu2; clear h2 hu2))
        | (refine wpList_slice_bs rfl _ none _ rfl _ rfl HRD.out 0 64 (.inl ⟨rfl, rfl⟩) (.inr rfl) (by omega) (by omega) ?_; intro v1 hv1; obtain ⟨b1, o1, cp1, hv, _, _, hb1, hcell⟩ := hv1.pos (by omega); rw [hl64] at hv; subst hv; have HC1 := Lib.hid hcell; clear hcell hv1)
        | (refine wpList_slice_bs rfl _ _ none rfl _ rfl HB2.out 64 r.length (.inr rfl) (.inl ⟨rfl, rfl⟩) (by omega) (by omega) ?_; intro v2 hv2; have HV2 := Lib.hid hv2; clear hv2)
        | (at_builtin; go_must (refine wpList_append_nil_bs rfl _ rfl _ rfl HV2.out (by simp; omega) ?_; intro v3 w3 ho3 hx3 hf3; rw [List.take_length] at ho3; obtain ⟨A3, c3, hv3, _⟩ := ho3.rd.is; rw [List.length_drop] at hv3; subst hv3; have hh3 := (hx3.block (Array.getElem?_eq_some_iff.1 H2.out).1).trans H2.out; have g83 : w3.cell? ⟨hb, 8, none⟩ = some (.slice A2 r.length c2) := (by rw [cell_of_row _ _ _ _ _ _ hh3]; rfl); have gf3 : w3.frozen? ⟨hb, 8, none⟩ = false := frozen_of_row _ _ _ _ _ hh3; have HO3 := Lib.hid ho3; have HX3 := Lib.hid hx3; have HF3 := Lib.hid hf3; clear hh3 ho3 hx3 hf3)))
      go_roundg (r.drop 64).length
      case measure => rw [← HRK.out]; simp; omega
      case rel =>
        refine ⟨p ++ r.take 64, r.drop 64, _, WMid.next HMID.out (by omega) H2.out HU2.out _ HO3.out HX3.out HF3.out, rfl⟩
end Go.Proofs.Ytapojpjmeadabaa
end

section
/- sha.New, sha.Hash.Copy. -/
namespace Go.Proofs.Ytapojpjmeadabaa
open Go.RowKit
set_option linter.unusedVariables false
set_option linter.unusedSimpArgs false
attribute [local go_sem] lt_ext cell?_ext frozen?_ext shape?_ext

set_option maxRecDepth 100000 in
set_option maxHeartbeats 1000000 in
theorem first_any (w : World) :
    Calls Try.prog 82 #[] w fun e w' => e = .returned (.agg (s8 Sha.init)) ∧ Ext w w' := by
  go_enter Try.func82, Try.ntmps82
  go_wp2
  refine bodyPost_ret (v := .agg #[.int .u32 1779033703, .int .u32 3144134277, .int .u32 1013904242, .int .u32 2773480762, .int .u32 1359893119, .int .u32 2600822924, .int .u32 528734635, .int .u32 1541459225]) (by simp [results, Try.results82, go_sem]) rfl ⟨?_, (Ext.refl w).alloc _⟩
  congr 1
set_option maxRecDepth 100000 in
set_option maxHeartbeats 1000000 in
theorem rounds_any (w : World) :
    Calls Try.prog 81 #[] w fun e w' => e = .returned (.agg (row32 64 Sha.K)) ∧ Ext w w' := by
  go_enter Try.func81, Try.ntmps81
  go_wp2_with (first
    | (refine wpl_alloc_agg rfl 98 rfl _ zero98.1 ?_)
    | (refine wpList_build rfl 98 _ rfl (by kernel_rfl) ?_)
    | (refine wpl_store98 rfl _ _ rfl w.heap.size Sha.K [] rfl (by kernel_rfl) (by decide) (by decide) (heap_alloc_last w _) ?_))
  exact ret98 rfl w.heap.size Sha.K (by decide) rfl (setRow_heap _ _ _ _ _ _ (heap_alloc_last w _)) rfl ⟨rfl, ((Ext.refl w).alloc _).setRow_new (Nat.le_refl _) _⟩
set_option maxRecDepth 100000 in
set_option maxHeartbeats 1000000 in
/-- New: a Hash that was told nothing, in new memory. -/
theorem new_any (w : World) :
    Calls Try.prog 32 #[] w fun e w' => ∃ hb kb, e = .returned (.pointer (some ⟨hb, 0, none⟩)) ∧ HashAt w' hb kb (.slice none 0 0) [] ∧ Ext w w' ∧ w.heap.size ≤ hb ∧ w.heap.size ≤ kb := by
  go_enter Try.func32, Try.ntmps32
  go_wp2_with (first
    | (go_at_call 81; go_must (refine (rounds_any _).mono ?_; rintro e w1 ⟨rfl, hx1⟩; have HX1 := Lib.hid hx1; clear hx1))
    | (go_at_call 82; go_must (refine (first_any _).mono ?_; rintro e w2 ⟨rfl, hx2⟩; have HX2 := Lib.hid hx2; clear hx2))
    | (refine wpl_alloc_agg rfl 98 rfl _ zero98.1 ?_)
    | (refine wpl_store98 rfl _ _ rfl w1.heap.size Sha.K [] rfl rfl (by decide) (by decide) (heap_alloc_last w1 _) ?_)
    | (refine wpList_build rfl 104 _ rfl (by kernel_rfl) ?_))
  have e104 : (Try.prog.built 104 [(0, Value.agg (s8 Sha.init)), (3, Value.pointer (some { block := w1.heap.size, off := 0 }))]).getD #[] = hcells Sha.init.toList (.slice none 0 0) (.int .u64 0) (.pointer (some ⟨w1.heap.size, 0, none⟩)) := by kernel_rfl
  rw [e104]
  go_ret
  have hk1 : ((w1.alloc (.cells (row32 64 []) 98)).setRow w1.heap.size (row32 64 Sha.K)).heap[w1.heap.size]? = some (.cells (row32 64 Sha.K) 98 (0, 0)) := setRow_heap _ _ _ _ _ _ (heap_alloc_last w1 _)
  have hs1 : w1.heap.size < ((w1.alloc (.cells (row32 64 []) 98)).setRow w1.heap.size (row32 64 Sha.K)).heap.size := (Array.getElem?_eq_some_iff.1 hk1).1
  have hx : Ext w w2 := (((HX1.out).alloc _).setRow_new (by simpa using HX1.out.size) _).trans HX2.out
  refine ⟨w2.heap.size, w1.heap.size, rfl, ⟨⟨[], [], rfl, rfl, by decide, heap_alloc_last w2 _, Own.nil _ _ _⟩, ?_, by decide⟩, hx.alloc _, hx.size, HX1.out.size⟩
  rw [heap_alloc_old w2 _ (Nat.lt_of_lt_of_le hs1 HX2.out.size), HX2.out.block hs1]
  exact hk1

/-! ### The whole struct of a Hash -/
theorem zero104 : (∀ w, (zeroValue 104).run Try.prog w = .ok (.agg (hcells (List.replicate 8 0) (.slice none 0 0) (.int .u64 0) (.pointer none))) w) ∧ (Try.prog.info? 104).map (·.size) = some 11 := zero_of_info (by kernel_rfl)
theorem size104 (L : List (BitVec 32)) (rest long kp : Value) (h : L.length = 8) : (Try.prog.info? 104).map (·.size) = some (hcells L rest long kp).size := by
  have : (hcells L rest long kp).size = 11 := by simp [hcells, h]
  rw [this]
  exact zero104.2
theorem wpl_load104 {ops : Array Oper} {rest : List Oper} {o : Oper} {a : Act} {w : World} {Q : Exit → Act → World → Prop} (hgd : o.guard = none) (x : Operand) (ho : o.op = .load 104 x)
    (g : Nat) (hx : a.eval x = .pointer (some ⟨g, 0, none⟩)) (L : List (BitVec 32)) (rv long kp : Value) (hL : L.length = 8) (hg : w.heap[g]? = some (.cells (hcells L rv long kp) 104 (0, 0)))
    (h : wpList Try.prog ops Q rest (a.put o.dst (.agg (hcells L rv long kp))) w) : wpList Try.prog ops Q (o :: rest) a w :=
  wpList_load_row hgd 104 x ho g hx 104 _ (0, 0) _ hg Try.underlying104 rfl (size104 L rv long kp hL) h
theorem wpl_store104 {ops : Array Oper} {rest : List Oper} {o : Oper} {a : Act} {w : World} {Q : Exit → Act → World → Prop} (hgd : o.guard = none) (x y : Operand) (ho : o.op = .store 104 x y)
    (g : Nat) (L L0 : List (BitVec 32)) (rv long kp rv0 long0 kp0 : Value) (hx : a.eval x = .pointer (some ⟨g, 0, none⟩)) (hy : a.eval y = .agg (hcells L rv long kp)) (hL : L.length = 8) (hL0 : L0.length = 8)
    (h1 : rv.oneCell' = true) (h2 : long.oneCell' = true) (h3 : kp.oneCell' = true) (hg : w.heap[g]? = some (.cells (hcells L0 rv0 long0 kp0) 104 (0, 0)))
    (h : ∀ w', w'.heap[g]? = some (.cells (hcells L rv long kp) 104 (0, 0)) → Upd w w' g → wpList Try.prog ops Q rest (a.put o.dst undef) w') : wpList Try.prog ops Q (o :: rest) a w :=
  wpList_store_row hgd 104 x y ho g _ hx hy 104 _ hg (size104 L rv long kp hL) (by simp [hcells, hL, hL0]) (by simp [hcells, h1, h2, h3]; intros; rfl)
    (h _ (setRow_heap _ _ _ _ _ _ hg) ⟨rfl, rfl, rfl, by simp, fun k _ hk => setRow_other w g k _ (fun e => hk (by rw [e]))⟩)
set_option maxRecDepth 100000 in
set_option maxHeartbeats 1000000 in
/-- Copy: another one that was told the same, in new memory. -/
theorem copy_any (hb kb : Nat) (rv : Value) (m : List UInt8) (w : World) (hH : HashAt w hb kb rv m) :
    Calls Try.prog 35 #[.pointer (some ⟨hb, 0, none⟩)] w fun e w' => ∃ hb' rv', e = .returned (.pointer (some ⟨hb', 0, none⟩)) ∧ HashAt w' hb' kb rv' m ∧ Ext w w' ∧ w.heap.size ≤ hb' ∧ (∀ g, rv'.ownBlock = some g → w.heap.size ≤ g) := by
  have hbh := hH.lt
  have hkh := hH.klt
  obtain ⟨p, r, hm, hp, hr, hh, ho⟩ := hH.ex
  have hrl : r.length ≤ 4294967296 := by
    have := hH.le
    have := congrArg List.length hm
    simp at this
    omega
  obtain ⟨A, cap, hv, _⟩ := ho.rd.is
  subst hv
  have g8 := hobj_cell8 hh
  have HH := Lib.hid hh
  have HO := Lib.hid ho
  have HK := Lib.hid hH.k
  have HM := Lib.hid hm
  have HP := Lib.hid hp
  have HL := Lib.hid hH.le
  clear hh ho hm hp hH
  go_enter Try.func35, Try.ntmps35
  go_wp2_with (first
    | (refine wpl_load104 rfl _ rfl hb rfl _ _ _ _ rfl HH.out ?_)
    | (refine wpl_alloc_agg rfl 104 rfl _ zero104.1 ?_)
    | (refine wpl_store104 rfl _ _ rfl w.heap.size _ _ _ _ _ _ _ _ rfl rfl rfl rfl rfl rfl rfl (heap_alloc_last w _) ?_; intro w2 hc2 hu2; have hx2 : Ext w w2 := Ext.upd_new ((Ext.refl w).alloc _) hu2 (Nat.le_refl _); have g82 : w2.cell? ⟨hb, 8, none⟩ = some (.slice A r.length cap) := (hx2.cell _ _ hbh).trans g8; have HB2 := Lib.hid (show Bs w2 (.slice A r.length cap) r from (Own.rd HO.out).ext hx2); have HX2 := Lib.hid hx2; have HC2 := Lib.hid hc2; clear hc2 hu2 hx2 g8)
    | (at_builtin; go_must (refine wpList_append_nil_bs rfl _ rfl _ rfl HB2.out hrl ?_; intro v3 w3 ho3 hx3 hf3; obtain ⟨A3, c3, hv3, _⟩ := ho3.rd.is; subst hv3; have hh3 := (hx3.block (Array.getElem?_eq_some_iff.1 HC2.out).1).trans HC2.out; have g83 : w3.cell? ⟨w.heap.size, 8, none⟩ = some (.slice A r.length cap) := (by rw [cell_of_row _ _ _ _ _ _ hh3]; rfl); have gf3 : w3.frozen? ⟨w.heap.size, 8, none⟩ = false := frozen_of_row _ _ _ _ _ hh3; have HO3 := Lib.hid ho3; have HX3 := Lib.hid hx3; have HF3 := Lib.hid hf3; have HH3 := Lib.hid hh3; clear hh3 ho3 hx3 hf3)))
  go_ret
  have hx : Ext w w3 := HX2.out.trans HX3.out
  have hu : Upd w3 (w3.setCell ⟨w.heap.size, 8, none⟩ (.slice A3 r.length c3)) w.heap.size := (Upd.of_ext (Ext.refl _) _).setCell (.inl rfl) _
  have hw2 : w.heap.size < w2.heap.size := (Array.getElem?_eq_some_iff.1 HC2.out).1
  refine ⟨w.heap.size, _, rfl, ⟨⟨p, r, HM.out, HP.out, hr, hobj_set8 HH3.out, Own.keep HO3.out hu ?_⟩, ?_, HL.out⟩, hx.upd_new hu (Nat.le_refl _), Nat.le_refl _, fun g hg => Nat.le_trans (Nat.le_of_lt hw2) (HF3.out g hg)⟩
  · intro e
    have := HF3.out _ e
    omega
  · rw [hu.old (Nat.lt_of_lt_of_le hkh hx.size) (by omega), hx.block hkh]
    exact HK.out
end Go.Proofs.Ytapojpjmeadabaa
end

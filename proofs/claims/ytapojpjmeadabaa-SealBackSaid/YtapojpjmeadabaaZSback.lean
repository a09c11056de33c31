/- Sback, Sback2, Law9: several texts in one. -/
import Derived.Test.YtapojpjmeadabaaZSenc
import Derived.Test.YtapojpjmeadabaaZLaw8
section
/- sacristanlaw08.SealBack. -/
namespace Go.Proofs.Ytapojpjmeadabaa
open Go.RowKit
set_option linter.unusedVariables false
set_option linter.unusedSimpArgs false
attribute [local go_sem] lt_ext cell?_ext frozen?_ext shape?_ext
attribute [local go_sem] u8_xor u8_or i8_mod u8_wrap

/-! ### Plain. -/
theorem fN_of (b b' : List UInt8) (h : b'.take 16 = b.take 16) : fN b' = fN b := by unfold fN; rw [h]
theorem flong_of (b b' : List UInt8) (h : b'.take 16 = b.take 16) : flong b' = flong b := by unfold flong fwide fparts; rw [fN_of b b' h]
theorem good_other (key b b' : List UInt8) (hg : good key b = true) (h : b'.take 16 = b.take 16) (hl : b'.length ≠ b.length) : good key b' = false := by
  cases hg' : good key b' with
  | false => rfl
  | true =>
    have h1 := good_long hg
    have h2 := good_long hg'
    rw [flong_of b b' h] at h2
    exact absurd (h2.trans h1.symm) hl
theorem good_is (key b : List UInt8) (hg : good key b = true) : encS key (fnum b) (fN b) (fsl b) (gsu b) = b := by
  unfold good at hg
  simp only [Bool.and_eq_true, decide_eq_true_eq] at hg
  exact hg.2
theorem take_of_take {b b' : List UInt8} {n m : Nat} (h : b'.take n = b.take n) (hm : m ≤ n) : b'.take m = b.take m := by
  have h1 := congrArg (List.take m) h
  rwa [List.take_take, List.take_take, Nat.min_eq_left hm] at h1
theorem good_tag (key b b' : List UInt8) (hg : good key b = true) (hb : b'.take (b.length - 32) = b.take (b.length - 32)) (hne : b' ≠ b) : good key b' = false := by
  cases hg' : good key b' with
  | false => rfl
  | true =>
    have h1 := good_long hg
    have h48 : flong b - 32 = b.length - 32 := by rw [h1]
    have e16 : b'.take 16 = b.take 16 := take_of_take hb (by rw [h1]; unfold flong; omega)
    have eN := fN_of b b' e16
    have eL := flong_of b b' e16
    have enum : fnum b' = fnum b := by unfold fnum; rw [take_of_take e16 (by decide)]
    have ew : fwide b' = fwide b := by unfold fwide; rw [eN]
    have ep : fparts b' = fparts b := by unfold fparts; rw [eN]
    have esl : fsl b' = fsl b := by
      unfold fsl
      rw [ew, take_of_take hb (by rw [h1]; unfold flong; omega)]
    have esu : gsu b' = gsu b := by
      unfold gsu
      rw [ew, ep, eL, h48, hb]
    have h2 := good_is key b' hg'
    rw [eN, enum, esl, esu, good_is key b hg] at h2
    exact absurd h2.symm hne
theorem flipL_twice (N : Nat) (sl : List UInt8) (hsl : sl.length = (N + 7) / 8) (k : Nat) : flipL (flipL sl (N : Int) (k : Int)) (N : Int) (k : Int) = sl := by
  unfold flipL
  by_cases h : (0 : Int) ≤ k ∧ (k : Int) < N
  · rw [if_pos h, if_pos h, Int.toNat_natCast, flipN_twice sl k (by omega)]
  · rw [if_neg h, if_neg h]
theorem set_take (b : List UInt8) (k n : Nat) (y : UInt8) (h : n ≤ k) : (b.set k y).take n = b.take n := by
  rw [List.take_set_of_le h]

set_option maxRecDepth 100000 in
set_option maxHeartbeats 4000000 in
theorem sback_key
    (kv : Value) (key : List UInt8) (x : Se) (at' bit : Nat) (more : UInt8) (w : World) (hK : Bs w kv key) (hx : SeR w x) (hx1 : x.sl.length ≤ 140737488355328) (hx2 : x.su.length ≤ 4398046511104)
    (hk : 100 < key.length)
 : Calls Try.prog 22 #[kv, x.v, .int .u16 (at' : Int), .int .u8 (bit : Int), B8 more] w fun e w' => e = .returned (.bool true) ∧ Ext w w' := by
  obtain ⟨Ak, ck, rfl, _, _, _, _⟩ := hK.is
  obtain ⟨n1, hn1⟩ : ∃ n, x.sl.length + 32 * x.su.length = n := ⟨_, rfl⟩
  have hn1b : n1 ≤ 1407374883553280 := by omega
  have L1 : Hid (∀ w', Ext w w' → Calls Try.prog 61 #[.agg (seRow x)] w' fun e w'' => e = .returned (.int .i64 (n1 : Int)) ∧ Ext w' w'') := Lib.hid (fun w' h => by have := slong_any x w' (hx.ext h) (by omega) (by omega); rw [hn1] at this; exact this)
  have RA : Hid (∀ w', Ext w w' → Calls Try.prog 67 #[.agg (seRow x)] w' fun e w'' => e = .returned (.bool (rightB x.blk x.sl x.su)) ∧ Ext w' w'') := Lib.hid (fun w' h => sright_any x w' (hx.ext h))
  have HNA := Lib.hid hn1
  have HK := Lib.hid hK
  have HX := Lib.hid hx
  have hb6 : At68 (w.alloc (.cells #[.int .u64 (x.num : Int), .int .i64 x.blk, x.sv, x.gv] 68)) w.heap.size (seRow x) := heap_alloc_last w _
  have hx0 : Ext w (w.alloc (.cells #[.int .u64 (x.num : Int), .int .i64 x.blk, x.sv, x.gv] 68)) := (Ext.refl w).alloc _
  have HB6 := Lib.hid hb6
  have HX0 := Lib.hid hx0
  clear hx hn1 hb6 hx0 hK
  have HDK : Hid (decide (100 < (key.length : Int)) = true) := Lib.hid (decide_eq_true (by omega))
  go_enter Try.func22, Try.ntmps22
  go_wp2_with (first | (refine wpl_v ?_ _ (exec_gtr (.tmp 24) 100 3 rfl (key.length : Int) rfl rfl _ HDK.out _) ?_; rfl) | (exact TQ.elim; refine wpl_v ?_ _ (exec_gtr (.tmp 28) 1000 3 rfl (n1 : Int) rfl rfl _ HD1.out _) ?_; rfl) | (clear TX; refine wpl_v ?_ _ (exec_load68 (.tmp 6) rfl w.heap.size rfl _ _ _ _ _ HB6.out) ?_; rfl) | (go_at_call 61; go_must (refine (L1.out _ HX0.out).mono ?_; rintro e w2 ⟨rfl, hx2⟩; have HX2 := Lib.hid (HX0.out.trans hx2); have HC6 := Lib.hid (HB6.out.ext hx2); clear hx2; have TZ : True := trivial)) | (go_at_call 63; go_must (refine (known8_any _).mono ?_; rintro e w9 ⟨rfl, hx9⟩; have HX9 := Lib.hid hx9; clear hx9)) )
  go_ret
  exact ⟨rfl, HX0.out.trans HX9.out⟩
set_option maxRecDepth 100000 in
set_option maxHeartbeats 4000000 in
theorem sback_big
    (kv : Value) (key : List UInt8) (x : Se) (at' bit : Nat) (more : UInt8) (w : World) (hK : Bs w kv key) (hx : SeR w x) (hx1 : x.sl.length ≤ 140737488355328) (hx2 : x.su.length ≤ 4398046511104)
    (hk : key.length ≤ 100) (hn : 1000 < x.sl.length + 32 * x.su.length)
 : Calls Try.prog 22 #[kv, x.v, .int .u16 (at' : Int), .int .u8 (bit : Int), B8 more] w fun e w' => e = .returned (.bool true) ∧ Ext w w' := by
  obtain ⟨Ak, ck, rfl, _, _, _, _⟩ := hK.is
  obtain ⟨n1, hn1⟩ : ∃ n, x.sl.length + 32 * x.su.length = n := ⟨_, rfl⟩
  have hn1b : n1 ≤ 1407374883553280 := by omega
  have L1 : Hid (∀ w', Ext w w' → Calls Try.prog 61 #[.agg (seRow x)] w' fun e w'' => e = .returned (.int .i64 (n1 : Int)) ∧ Ext w' w'') := Lib.hid (fun w' h => by have := slong_any x w' (hx.ext h) (by omega) (by omega); rw [hn1] at this; exact this)
  have RA : Hid (∀ w', Ext w w' → Calls Try.prog 67 #[.agg (seRow x)] w' fun e w'' => e = .returned (.bool (rightB x.blk x.sl x.su)) ∧ Ext w' w'') := Lib.hid (fun w' h => sright_any x w' (hx.ext h))
  have HNA := Lib.hid hn1
  have HK := Lib.hid hK
  have HX := Lib.hid hx
  have hb6 : At68 (w.alloc (.cells #[.int .u64 (x.num : Int), .int .i64 x.blk, x.sv, x.gv] 68)) w.heap.size (seRow x) := heap_alloc_last w _
  have hx0 : Ext w (w.alloc (.cells #[.int .u64 (x.num : Int), .int .i64 x.blk, x.sv, x.gv] 68)) := (Ext.refl w).alloc _
  have HB6 := Lib.hid hb6
  have HX0 := Lib.hid hx0
  clear hx hn1 hb6 hx0 hK
  have HDK : Hid (decide (100 < (key.length : Int)) = false) := Lib.hid (decide_eq_false (by omega))
  have HD1 : Hid (decide (1000 < (n1 : Int)) = true) := Lib.hid (decide_eq_true (by have := HNA.out; omega))
  have TX : True := trivial
  go_enter Try.func22, Try.ntmps22
  go_wp2_with (first | (refine wpl_v ?_ _ (exec_gtr (.tmp 24) 100 3 rfl (key.length : Int) rfl rfl _ HDK.out _) ?_; rfl) | (skip; refine wpl_v ?_ _ (exec_gtr (.tmp 28) 1000 3 rfl (n1 : Int) rfl rfl _ HD1.out _) ?_; rfl) | (clear TX; refine wpl_v ?_ _ (exec_load68 (.tmp 6) rfl w.heap.size rfl _ _ _ _ _ HB6.out) ?_; rfl) | (go_at_call 61; go_must (refine (L1.out _ HX0.out).mono ?_; rintro e w2 ⟨rfl, hx2⟩; have HX2 := Lib.hid (HX0.out.trans hx2); have HC6 := Lib.hid (HB6.out.ext hx2); clear hx2; have TZ : True := trivial)) | (go_at_call 63; go_must (refine (known8_any _).mono ?_; rintro e w9 ⟨rfl, hx9⟩; have HX9 := Lib.hid hx9; clear hx9)) )
  go_ret
  exact ⟨rfl, HX2.out.trans HX9.out⟩
set_option maxRecDepth 100000 in
set_option maxHeartbeats 4000000 in
theorem sback_not
    (kv : Value) (key : List UInt8) (x : Se) (at' bit : Nat) (more : UInt8) (w : World) (hK : Bs w kv key) (hx : SeR w x) (hx1 : x.sl.length ≤ 140737488355328) (hx2 : x.su.length ≤ 4398046511104)
    (hk : key.length ≤ 100) (hn : x.sl.length + 32 * x.su.length ≤ 1000) (hr : rightB x.blk x.sl x.su = false)
 : Calls Try.prog 22 #[kv, x.v, .int .u16 (at' : Int), .int .u8 (bit : Int), B8 more] w fun e w' => e = .returned (.bool true) ∧ Ext w w' := by
  have EN : Hid (∀ w', Ext w w' → Calls Try.prog 64 #[kv, .agg (seRow x)] w' fun e w'' => e = .returned (.tuple #[.slice none 0 0, .int .i64 2]) ∧ Ext w' w'') := Lib.hid (fun w' h => encode_not kv x w' (hx.ext h) hr)
  obtain ⟨Ak, ck, rfl, _, _, _, _⟩ := hK.is
  obtain ⟨n1, hn1⟩ : ∃ n, x.sl.length + 32 * x.su.length = n := ⟨_, rfl⟩
  have hn1b : n1 ≤ 1407374883553280 := by omega
  have L1 : Hid (∀ w', Ext w w' → Calls Try.prog 61 #[.agg (seRow x)] w' fun e w'' => e = .returned (.int .i64 (n1 : Int)) ∧ Ext w' w'') := Lib.hid (fun w' h => by have := slong_any x w' (hx.ext h) (by omega) (by omega); rw [hn1] at this; exact this)
  have RA : Hid (∀ w', Ext w w' → Calls Try.prog 67 #[.agg (seRow x)] w' fun e w'' => e = .returned (.bool (rightB x.blk x.sl x.su)) ∧ Ext w' w'') := Lib.hid (fun w' h => sright_any x w' (hx.ext h))
  have HNA := Lib.hid hn1
  have HK := Lib.hid hK
  have HX := Lib.hid hx
  have hb6 : At68 (w.alloc (.cells #[.int .u64 (x.num : Int), .int .i64 x.blk, x.sv, x.gv] 68)) w.heap.size (seRow x) := heap_alloc_last w _
  have hx0 : Ext w (w.alloc (.cells #[.int .u64 (x.num : Int), .int .i64 x.blk, x.sv, x.gv] 68)) := (Ext.refl w).alloc _
  have HB6 := Lib.hid hb6
  have HX0 := Lib.hid hx0
  clear hx hn1 hb6 hx0 hK
  have HR := Lib.hid hr
  clear hr
  have HDK : Hid (decide (100 < (key.length : Int)) = false) := Lib.hid (decide_eq_false (by omega))
  have HD1 : Hid (decide (1000 < (n1 : Int)) = false) := Lib.hid (decide_eq_false (by have := HNA.out; omega))
  have TX : True := trivial
  go_enter Try.func22, Try.ntmps22
  go_wp2_with (first | (refine wpl_v ?_ _ (exec_gtr (.tmp 24) 100 3 rfl (key.length : Int) rfl rfl _ HDK.out _) ?_; rfl) | (skip; refine wpl_v ?_ _ (exec_gtr (.tmp 28) 1000 3 rfl (n1 : Int) rfl rfl _ HD1.out _) ?_; rfl) | (clear TX; refine wpl_v ?_ _ (exec_load68 (.tmp 6) rfl w.heap.size rfl _ _ _ _ _ HB6.out) ?_; rfl) | (go_at_call 61; go_must (refine (L1.out _ HX0.out).mono ?_; rintro e w2 ⟨rfl, hx2⟩; have HX2 := Lib.hid (HX0.out.trans hx2); have HC6 := Lib.hid (HB6.out.ext hx2); clear hx2; have TZ : True := trivial)) | (go_at_call 63; go_must (refine (known8_any _).mono ?_; rintro e w9 ⟨rfl, hx9⟩; have HX9 := Lib.hid hx9; clear hx9)) | (clear TZ; refine wpl_load68 rfl _ rfl w.heap.size rfl _ _ _ _ HC6.out ?_) | (go_at_call 64; go_must (refine (EN.out _ HX2.out).mono ?_; rintro e w4 ⟨rfl, hx4⟩; have HX4 := Lib.hid (HX2.out.trans hx4); have HD6 := Lib.hid (HC6.out.ext hx4); clear hx4)) | (refine wpl_load68 rfl _ rfl w.heap.size rfl _ _ _ _ HD6.out ?_) | (go_at_call 67; go_must (refine (RA.out _ HX4.out).mono ?_; rintro e w5 ⟨rfl, hx5⟩; rw [HR.out]; have HX5 := Lib.hid (HX4.out.trans hx5); clear hx5)))
  go_ret
  exact ⟨rfl, HX5.out.trans HX9.out⟩
end Go.Proofs.Ytapojpjmeadabaa
end

section
/- sacristanlaw08.SealBack: what is sealed is taken as it was. -/
namespace Go.Proofs.Ytapojpjmeadabaa
open Go.RowKit
set_option linter.unusedVariables false
set_option linter.unusedSimpArgs false
attribute [local go_sem] lt_ext cell?_ext frozen?_ext shape?_ext
attribute [local go_sem] u8_xor u8_or i8_mod u8_wrap

def Held (p : Prop) : Prop := p
theorem exec_subc {o : Oper} {ρ : Operand → Value} (p : Operand) (c : Int) (t : TypeId) (ho : o.op = .binOp .sub 3 p (.const (.int .i64 c)) t) (n m : Int) (hp : ρ p = .int .i64 n) (hc : ρ (.const (.int .i64 c)) = .int .i64 c) (hb : IntKind.i64.wrap (n - c) = m) (w : World) :
    (execOp ρ o).run Try.prog w = .ok (.value (.int .i64 m)) w := by
  unfold execOp
  simp only [ho, hp, hc]
  go_simp
  try exact hb
set_option maxRecDepth 100000 in
set_option maxHeartbeats 8000000 in
theorem sback_good (num N : Nat) (sl : List UInt8) (su : List (List UInt8)) (sv gv : Value) (kv : Value) (key : List UInt8) (x : Se) (hxe : x = ⟨num, N, sl, su, sv, gv⟩) (at' bit : Nat) (hat : at' ≤ 65535) (hbit : bit < 256) (more : UInt8) (w : World) (hK : Bs w kv key) (hx : SeR w x) (hx1 : x.sl.length ≤ 140737488355328) (hx2 : x.su.length ≤ 4398046511104)
    (hk : key.length ≤ 100) (hn : x.sl.length + 32 * x.su.length ≤ 1000) (hr : rightB x.blk x.sl x.su = true)
 : Calls Try.prog 22 #[kv, x.v, .int .u16 (at' : Int), .int .u8 (bit : Int), B8 more] w fun e w' => e = .returned (.bool true) ∧ Ext w w' := by
  obtain ⟨N', hN', hNb, hsl, hsu⟩ := right_bounds hr
  have hxb : x.blk = (N : Int) := by rw [hxe]
  obtain rfl : N = N' := by rw [hxb] at hN'; omega
  obtain ⟨B, hB⟩ : ∃ B, encS key x.num N x.sl x.su = B := ⟨_, rfl⟩
  have hr' : rightB (N : Int) x.sl x.su = true := by rw [← hxb]; exact hr
  obtain ⟨g0, g1, g2, g3, g4⟩ := good_enc key x.num N hx.num x.sl x.su hx.su.all hr'
  have hlen := encS_length key x.num N x.sl x.su hsl hsu hx.su.all
  rw [hB] at g0 g1 g2 g3 g4 hlen
  have hB48 : 48 ≤ B.length := by omega
  have hBb : B.length ≤ 20000 := by omega
  have hnum := hx.num
  have E1 : Hid (∀ w', Ext w w' → Calls Try.prog 64 #[kv, .agg (seRow x)] w' fun e w'' => ∃ v, e = .returned (.tuple #[v, .int .i64 0]) ∧ NewB w' v B w'') := Lib.hid (fun w' h => by have := encode_any kv x key w' (Rd.ext hK h) (by omega) (hx.ext h) hr; rw [hxb, Int.toNat_natCast, hB] at this; exact this)
  have D1 : Hid (∀ u w', Ext w w' → Bs w' u B → Calls Try.prog 68 #[kv, u] w' fun e w'' => ∃ y, e = .returned (.tuple #[y.v, .int .i64 0]) ∧ SeR w'' y ∧ Ext w' w'' ∧ sameB x y = true) := Lib.hid (fun u w' h hu => (decode_good kv u key B w' hu (Rd.ext hK h) (by omega) (by omega) g0).mono fun e w'' ⟨sv', gv', h1, h2, h3⟩ => ⟨_, h1, h2, h3, by simp [sameB, mkSe, g1, g2, g3, g4, hxb]⟩)
  have BAD : Hid (∀ b u w', good key b = false → b.length ≤ 1073741824 → Ext w w' → Bs w' u b → Calls Try.prog 68 #[kv, u] w' fun e w'' => e = .returned (.tuple #[Z68, .int .i64 5]) ∧ Ext w' w'') := Lib.hid (fun b u w' hg hl h hu => decode_bad kv u key b w' hu (Rd.ext hK h) (by omega) hl hg)
  have S1 : Hid (∀ y w', Ext w w' → SeR w' y → sameB x y = true → Calls Try.prog 66 #[.agg (seRow x), .agg (seRow y)] w' fun e w'' => e = .returned (.bool true) ∧ Ext w' w'') := Lib.hid (fun y w' h hy hs => by have := rsame_any x y w' (hx.ext h) hy (by omega); rw [hs] at this; exact this)
  obtain ⟨fl, hfl⟩ : ∃ fl, flipL x.sl (N : Int) (at' : Int) = fl := ⟨_, rfl⟩
  have hfl2 : flipL fl (N : Int) (at' : Int) = x.sl := by rw [← hfl]; exact flipL_twice N x.sl hsl at'
  have hfll : fl.length ≤ 1000 := by
    rw [← hfl]; unfold flipL
    split
    · rw [flipN_len]; omega
    · omega
  have FA : Hid (∀ w', Ext w w' → Calls Try.prog 69 #[.agg (seRow x), .int .i64 (at' : Int)] w' fun e w'' => ∃ u, e = .returned u ∧ FlR x.num x.blk fl x.su u w'' ∧ Ext w' w'') := Lib.hid (fun w' h => (flip_any x (at' : Int) w' (hx.ext h) (by omega) (by omega) (by omega) (by omega)).mono fun e w'' ⟨v7, v10, h1, h2, h3⟩ => ⟨_, h1, ⟨v7, v10, rfl, ⟨by rw [← hfl, ← hxb]; exact h2.bs, h3.dgs, hx.num, hx.lo, hx.hi⟩⟩, h2.ext⟩)
  have FB : Hid (∀ u w', FlR x.num x.blk fl x.su u w' → Calls Try.prog 69 #[u, .int .i64 (at' : Int)] w' fun e w'' => ∃ u, e = .returned u ∧ FlR x.num x.blk x.sl x.su u w'' ∧ Ext w' w'') := Lib.hid (fun u w' ⟨v, g, h1, h2⟩ => by
    subst h1
    exact (flip_any _ (at' : Int) w' h2 (show fl.length ≤ _ by omega) (show x.su.length ≤ _ by omega) (by omega) (by omega)).mono fun e w'' ⟨v7, v10, h1, h3, h4⟩ => ⟨_, h1, ⟨v7, v10, rfl, ⟨by rw [← hfl2, ← hxb]; exact h3.bs, h4.dgs, h2.num, h2.lo, h2.hi⟩⟩, h3.ext⟩)
  have FS : Hid (∀ u w', Ext w w' → FlR x.num x.blk x.sl x.su u w' → Calls Try.prog 66 #[u, .agg (seRow x)] w' fun e w'' => e = .returned (.bool true) ∧ Ext w' w'') := Lib.hid (fun u w' h ⟨v, g, h1, h2⟩ => by
    subst h1
    have := rsame_any _ x w' h2 (hx.ext h) (show x.su.length ≤ _ by omega)
    rw [show sameB (⟨x.num, x.blk, x.sl, x.su, v, g⟩ : Se) x = true by simp [sameB]] at this
    exact this)
  have G1 : Hid (good key (B ++ [more]) = false) := Lib.hid (good_other key B _ g0 (by rw [List.take_append_of_le_length (by omega)]) (by simp))
  have G2 : Hid (good key (B.take (B.length - 1)) = false) := Lib.hid (good_other key B _ g0 (by rw [List.take_take, Nat.min_eq_left (by omega)]) (by rw [List.length_take]; omega))
  obtain ⟨p, hp, hp32⟩ : ∃ p : Nat, (at' : Int) % 32 = (p : Int) ∧ p < 32 := ⟨at' % 32, by omega, by omega⟩
  obtain ⟨q, hq, hq8⟩ : ∃ q : Nat, (bit : Int) % 8 = (q : Int) ∧ q < 8 := ⟨bit % 8, by omega, by omega⟩
  obtain ⟨k, hkk, hkl⟩ : ∃ k : Nat, (B.length : Int) - 1 - (p : Int) = (k : Int) ∧ k + 1 + p = B.length := ⟨B.length - 1 - p, by omega, by omega⟩
  obtain ⟨t, ht⟩ : ∃ t, B.getD k 0 = t := ⟨_, rfl⟩
  obtain ⟨y, hy⟩ : ∃ y : UInt8, y = UInt8.ofNat (2 ^ q) := ⟨_, rfl⟩
  have hsh : (2 : Int) ^ q % 256 = i8 y := by
    rw [hy]
    rcases (show q = 0 ∨ q = 1 ∨ q = 2 ∨ q = 3 ∨ q = 4 ∨ q = 5 ∨ q = 6 ∨ q = 7 by omega) with h | h | h | h | h | h | h | h <;> subst h <;> rfl
  have hy0 : y ≠ 0 := by
    rw [hy]
    rcases (show q = 0 ∨ q = 1 ∨ q = 2 ∨ q = 3 ∨ q = 4 ∨ q = 5 ∨ q = 6 ∨ q = 7 by omega) with h | h | h | h | h | h | h | h <;> subst h <;> decide
  have G3 : Hid (good key (B.set k (t ^^^ y)) = false) := Lib.hid (good_tag key B _ g0 (set_take B k _ _ (by omega)) (fun e => by
    have h1 := congrArg (fun l : List UInt8 => l.getD k 0) e
    simp only [ht] at h1
    have hkb : k < B.length := by omega
    simp [List.getD, hkb] at h1
    have h2 := congrArg (t ^^^ ·) h1
    simp [← UInt8.xor_assoc] at h2
    exact hy0 h2))
  have HBL := Lib.hid hkl
  have HT := Lib.hid ht
  clear hB hr' g0 g1 g2 g3 g4 hlen hsl hsu hfl hfl2 hfll hN' ht hy hy0 hkl hxe hxb
  obtain ⟨Ak, ck, rfl, _, _, _, _⟩ := hK.is
  obtain ⟨n1, hn1⟩ : ∃ n, x.sl.length + 32 * x.su.length = n := ⟨_, rfl⟩
  have hn1b : n1 ≤ 1407374883553280 := by omega
  have L1 : Hid (∀ w', Ext w w' → Calls Try.prog 61 #[.agg (seRow x)] w' fun e w'' => e = .returned (.int .i64 (n1 : Int)) ∧ Ext w' w'') := Lib.hid (fun w' h => by have := slong_any x w' (hx.ext h) (by omega) (by omega); rw [hn1] at this; exact this)
  have RA : Hid (∀ w', Ext w w' → Calls Try.prog 67 #[.agg (seRow x)] w' fun e w'' => e = .returned (.bool (rightB x.blk x.sl x.su)) ∧ Ext w' w'') := Lib.hid (fun w' h => sright_any x w' (hx.ext h))
  have HNA := Lib.hid hn1
  have HK := Lib.hid hK
  have HX := Lib.hid hx
  have hb6 : At68 (w.alloc (.cells #[.int .u64 (x.num : Int), .int .i64 x.blk, x.sv, x.gv] 68)) w.heap.size (seRow x) := heap_alloc_last w _
  have hx0 : Ext w (w.alloc (.cells #[.int .u64 (x.num : Int), .int .i64 x.blk, x.sv, x.gv] 68)) := (Ext.refl w).alloc _
  have HB6 := Lib.hid hb6
  have HX0 := Lib.hid hx0
  clear hx hn1 hb6 hx0 hK
  have HR := Lib.hid hr
  clear hr
  have HDK : Hid (decide (100 < (key.length : Int)) = false) := Lib.hid (decide_eq_false (by omega))
  have HD1 : Hid (decide (1000 < (n1 : Int)) = false) := Lib.hid (decide_eq_false (by have := HNA.out; omega))
  have TX : True := trivial
  go_enter Try.func22, Try.ntmps22
  go_wp2_with (first | (refine wpl_v ?_ _ (exec_gtr (.tmp 24) 100 3 rfl (key.length : Int) rfl rfl _ HDK.out _) ?_; rfl) | (skip; refine wpl_v ?_ _ (exec_gtr (.tmp 28) 1000 3 rfl (n1 : Int) rfl rfl _ HD1.out _) ?_; rfl) | (clear TX; refine wpl_v ?_ _ (exec_load68 (.tmp 6) rfl w.heap.size rfl _ _ _ _ _ HB6.out) ?_; rfl) | (go_at_call 61; go_must (refine (L1.out _ HX0.out).mono ?_; rintro e w2 ⟨rfl, hx2⟩; have HX2 := Lib.hid (HX0.out.trans hx2); have HC6 := Lib.hid (HB6.out.ext hx2); clear hx2; have TZ : True := trivial)) | (go_at_call 63; go_must (refine (known8_any _).mono ?_; rintro e w9 ⟨rfl, hx9⟩; have HX9 := Lib.hid hx9; clear hx9)) | (clear TZ; refine wpl_load68 rfl _ rfl w.heap.size rfl _ _ _ _ HC6.out ?_; have TA : True := trivial) | (go_at_call 64; go_must (refine (E1.out _ HX2.out).mono ?_; rintro e w4 ⟨v4, rfl, hn4⟩; obtain ⟨A4, c4, e4, _, _, _, _⟩ := hn4.bs.is; rw [e4]; rw [e4] at hn4; have HX4 := Lib.hid (HX2.out.trans hn4.ext); have HD6 := Lib.hid (HC6.out.ext hn4.ext); have HN4 : Hid (NewB w (.slice A4 B.length c4) B w4) := Lib.hid (hn4.from HX2.out); clear e4 hn4; have TB : True := trivial)) | (clear TB; refine wpl_load68 rfl _ rfl w.heap.size rfl _ _ _ _ HD6.out ?_) | (go_at_call 67; go_must (refine (RA.out _ HX4.out).mono ?_; rintro e w5 ⟨rfl, hx5⟩; rw [HR.out]; have HX5 := Lib.hid (HX4.out.trans hx5); have HE6 := Lib.hid (HD6.out.ext hx5); have HN5 := Lib.hid (HN4.out.grow hx5); clear hx5; have TC : True := trivial)) | (go_at_call 68; clear TC; go_must (refine (D1.out _ _ HX5.out HN5.out.bs).mono ?_; rintro e w6 ⟨s, rfl, hs6, hx6, hss⟩; have HX6 := Lib.hid (HX5.out.trans hx6); have HF6 := Lib.hid (HE6.out.ext hx6); have HN6 := Lib.hid (HN5.out.grow hx6); have HS6 := Lib.hid hs6; have HSS := Lib.hid hss; clear hx6 hs6 hss; have TD : True := trivial)) | (clear TD; refine wpl_store68 rfl _ _ rfl w6.heap.size (.int .u64 (s.num : Int)) (.int .i64 s.blk) s.sv s.gv (.int .u64 0) (.int .i64 0) (.slice none 0 0) (.slice none 0 0) rfl rfl (seRow_one HS6.out) (heap_alloc_last w6 _) ?_; intro w7 h7 hu7; have hx7 : Ext w6 w7 := ((Ext.refl w6).alloc _).upd_new hu7 (Nat.le_refl _); have HX7 := Lib.hid (HX6.out.trans hx7); have HG6 := Lib.hid (HF6.out.ext hx7); have HN7 := Lib.hid (HN6.out.grow hx7); have HS7 := Lib.hid (HS6.out.ext hx7); have HG13 : Hid (At68 w7 w6.heap.size (seRow s)) := Lib.hid h7; clear h7 hu7 hx7))
  refine wp_region_m (by kernel_rfl) (by kernel_rfl) ?_; try simp only [Act.put, List.setIfInBounds_toArray, List.set_cons_succ, List.set_cons_zero]
  repeat (first | (refine gskip rfl rfl rfl rfl ?_; simp only [Act.put, List.setIfInBounds_toArray, List.set_cons_succ, List.set_cons_zero]) | (refine gq rfl rfl rfl rfl (fun K hK => ?_); go_big_quiet_op; refine hK _ ?_; clear hK K; try simp only [hq]))
  refine gx rfl rfl rfl rfl (.agg (seRow x)) (fun z => exec_load68 (.tmp 6) rfl (w.heap.size) rfl _ _ _ _ _ ((HG6.out).ext (ext_ext _ z))) ?_
  simp only [Act.put, List.setIfInBounds_toArray, List.set_cons_succ, List.set_cons_zero]
  refine gx rfl rfl rfl rfl (.agg (seRow s)) (fun z => exec_load68 (.tmp 13) rfl (w6.heap.size) rfl _ _ _ _ _ ((HG13.out).ext (ext_ext _ z))) ?_
  simp only [Act.put, List.setIfInBounds_toArray, List.set_cons_succ, List.set_cons_zero]
  refine gc rfl rfl rfl rfl 66 #[.agg (seRow x), .agg (seRow s)] (fun _ => by go_simp) (.bool true) (fun z => S1.out s _ (HX7.out.trans (ext_ext _ z)) (HS7.out.ext (ext_ext _ z)) HSS.out) ?_
  simp only [Act.put, List.setIfInBounds_toArray, List.set_cons_succ, List.set_cons_zero]
  refine gq rfl rfl rfl rfl (fun K hK => ?_); go_big_quiet_op; refine hK _ ?_; clear hK K
  refine gq rfl rfl rfl rfl (fun K hK => ?_); go_big_quiet_op; refine hK _ ?_; clear hK K
  refine gq rfl rfl rfl rfl (fun K hK => ?_); go_big_quiet_op; refine hK _ ?_; clear hK K
  refine gx rfl rfl rfl rfl (.agg (seRow x)) (fun z => exec_load68 (.tmp 6) rfl (w.heap.size) rfl _ _ _ _ _ ((HG6.out).ext (ext_ext _ z))) ?_
  simp only [Act.put, List.setIfInBounds_toArray, List.set_cons_succ, List.set_cons_zero]
  refine gq rfl rfl rfl rfl (fun K hK => ?_); go_big_quiet_op; refine hK _ ?_; clear hK K
  refine ge rfl rfl rfl rfl (.int .i64 (at' : Int)) (fun _ => by go_simp; rw [IntKind.wrap_i64]; omega) ?_
  simp only [Act.put, List.setIfInBounds_toArray, List.set_cons_succ, List.set_cons_zero]
  refine gcp rfl rfl rfl rfl 69 #[.agg (seRow x), .int .i64 (at' : Int)] (fun _ => by go_simp) 73 rfl (FlR x.num x.blk fl x.su) FlR.ext (fun z => FA.out _ (HX7.out.trans (ext_ext _ z))) ?_
  simp only [Act.put, List.setIfInBounds_toArray, List.set_cons_succ, List.set_cons_zero]
  refine gq rfl rfl rfl rfl (fun K hK => ?_); go_big_quiet_op; refine hK _ ?_; clear hK K
  refine ge rfl rfl rfl rfl (.int .i64 (at' : Int)) (fun _ => by go_simp; rw [IntKind.wrap_i64]; omega) ?_
  simp only [Act.put, List.setIfInBounds_toArray, List.set_cons_succ, List.set_cons_zero]
  refine gcxp rfl rfl 69 (fun xs => #[xs 73, .int .i64 (at' : Int)]) 76 rfl (FlR x.num x.blk x.sl x.su) FlR.ext (fun xs => rfl) (fun xs w => by simp only [fillM, Act.put, List.setIfInBounds_toArray, List.set_cons_succ, List.set_cons_zero]; go_simp) (fun xs z hk => FB.out _ _ (hk 73 (by decide) (by simp) _ rfl)) ?_
  simp only [Act.put, List.setIfInBounds_toArray, List.set_cons_succ, List.set_cons_zero]
  refine gx rfl rfl rfl rfl (.agg (seRow x)) (fun z => exec_load68 (.tmp 6) rfl (w.heap.size) rfl _ _ _ _ _ ((HG6.out).ext (ext_ext _ z))) ?_
  simp only [Act.put, List.setIfInBounds_toArray, List.set_cons_succ, List.set_cons_zero]
  refine gcx rfl rfl 66 (fun xs => #[xs 76, .agg (seRow x)]) (.bool true) (fun xs => rfl) (fun xs w => by simp only [fillM, Act.put, List.setIfInBounds_toArray, List.set_cons_succ, List.set_cons_zero]; go_simp) (fun xs z hk => FS.out _ _ (HX7.out.trans (ext_ext _ z)) (hk 76 (by decide) (by simp) _ rfl)) ?_
  simp only [Act.put, List.setIfInBounds_toArray, List.set_cons_succ, List.set_cons_zero]
  refine gq rfl rfl rfl rfl (fun K hK => ?_); go_big_quiet_op; refine hK _ ?_; clear hK K
  refine gq rfl rfl rfl rfl (fun K hK => ?_); go_big_quiet_op; refine hK _ ?_; clear hK K
  refine gm_end_at rfl [(76, FlR x.num x.blk x.sl x.su), (73, FlR x.num x.blk fl x.su)] rfl (fun xs z hk => ?_)
  clear hk
  simp only [fillM, Act.put, List.setIfInBounds_toArray, List.set_cons_succ, List.set_cons_zero]
  have HX8 := Lib.hid (HX7.out.trans (ext_ext _ z))
  have HN8 := Lib.hid (HN7.out.grow (ext_ext _ z))
  generalize w7.ext z = W8 at *
  obtain ⟨V99, hV99, hr99⟩ := run_slice_every ei23 HN8.out.bs none (some (.int .i64 ((B.length - 1 : Nat) : Int))) 0 (B.length - 1) (.inl ⟨rfl, rfl⟩) (.inr rfl) (Nat.zero_le _) (by omega)
  have hr99' : ∀ w', Ext W8 w' → Bs w' V99 (B.take (B.length - 1)) := fun w' h => Rd.ext (Bs.of_rd (n := B.length - 1 - 0) (l := B.take (B.length - 1)) (by have := hr99; simp only [Nat.mul_one, Nat.zero_mul, List.drop_zero] at this; rw [← List.map_take] at this; exact this) (by rw [List.length_take]; omega) rfl) h
  rw [show ((B.length - 1 : Nat) : Int) = (B.length : Int) - 1 by omega] at hV99
  obtain ⟨bt, hbt⟩ : ∃ bt, B.take (B.length - 1) = bt := ⟨_, rfl⟩
  have hbtl : bt.length ≤ 1073741824 := by rw [← hbt, List.length_take]; omega
  have G2' := G2.out
  rw [hbt] at hr99' G2'
  have C99 : Hid (∀ w', Ext w w' → Ext W8 w' → Calls Try.prog 68 #[.slice Ak key.length ck, V99] w' fun e w'' => e = .returned (.tuple #[Z68, .int .i64 5]) ∧ Ext w' w'') := Lib.hid (fun w' h h2 => BAD.out bt _ _ G2' hbtl h (hr99' _ h2))
  obtain ⟨bs, hbs⟩ : ∃ bs, B.set k (t ^^^ y) = bs := ⟨_, rfl⟩
  have hbsl : bs.length = B.length := by rw [← hbs, List.length_set]
  have G3' := G3.out
  rw [hbs] at G3'
  have CSET : Hid (∀ w', Ext w w' → Bs w' (.slice A4 B.length c4) bs → Calls Try.prog 68 #[.slice Ak key.length ck, .slice A4 B.length c4] w' fun e w'' => e = .returned (.tuple #[Z68, .int .i64 5]) ∧ Ext w' w'') := Lib.hid (fun w' h h2 => BAD.out bs _ _ G3' (by rw [hbsl]; omega) h h2)
  have HBS := Lib.hid hbs
  have HBSL := Lib.hid hbsl
  clear hbt hbtl G2' hbs hbsl G3' G2 G3 hr99'
  have HV99 := Lib.hid hV99
  have TA : True := trivial
  have TP : True := trivial
  have HKK := Lib.hid hkk
  have HSUB : Hid (IntKind.i64.wrap ((B.length : Int) - 1) = (B.length : Int) - 1) := Lib.hid (by rw [IntKind.wrap_i64]; omega)
  clear hV99 hr99 hkk
  go_wp2_with (first | (go_at_call 51; go_must (refine (copy0_any _ B _ HN8.out.bs (by omega)).mono ?_; rintro e wa ⟨va, rfl, hna⟩; obtain ⟨Aa, ca, ea, _, _, _, _⟩ := hna.bs.is; rw [ea]; rw [ea] at hna; have HNA2 := Lib.hid hna; have HXA := Lib.hid (HX8.out.trans hna.ext); have HOA := Lib.hid (HN8.out.grow hna.ext); have HWA := Lib.hid hna.ext; clear hna ea)) | (clear TP; at_builtin; go_must (refine wpList_append_bs rfl _ _ rfl _ rfl (HNA2.out.grow ((Ext.refl wa).alloc _)).own _ rfl (Bs.lit_new wa _ [more] (one_cells _) (by simp)) (by simp; omega) ?_; intro vb wb hob hgb hfb; have HNB2 := Lib.hid ((HNA2.out.grow ((Ext.refl wa).alloc _)).app hob hgb hfb); have HXB := Lib.hid (HX8.out.trans HNB2.out.ext); have HOB := Lib.hid (HN8.out.grow HNB2.out.ext); have HWB := Lib.hid HNB2.out.ext; clear hob hgb hfb)) | (go_at_call 68; clear TA; go_must (refine (BAD.out (B ++ [more]) _ _ G1.out (by simp; omega) HXB.out HNB2.out.bs).mono ?_; rintro e wc ⟨rfl, hxc⟩; have HXC := Lib.hid (HXB.out.trans hxc); have HOC := Lib.hid (HOB.out.grow hxc); have HWC := Lib.hid (HWB.out.trans hxc); clear hxc; have TB : True := trivial)) | (clear TB; refine wpl_store68 rfl _ _ rfl wc.heap.size (.int .u64 0) (.int .i64 0) (.slice none 0 0) (.slice none 0 0) (.int .u64 0) (.int .i64 0) (.slice none 0 0) (.slice none 0 0) rfl rfl (by simp [row68, Value.oneCell']) (heap_alloc_last wc _) ?_; intro wd hd hud; have hxd : Ext wc wd := ((Ext.refl wc).alloc _).upd_new hud (Nat.le_refl _); have HXD := Lib.hid (HXC.out.trans hxd); have HOD := Lib.hid (HOC.out.grow hxd); have HWD := Lib.hid (HWC.out.trans hxd); clear hd hud hxd; have TC : True := trivial) | (clear TC; refine wpl_v rfl _ (exec_subc (.tmp 97) 1 3 rfl (B.length : Int) ((B.length : Int) - 1) rfl rfl HSUB.out _) ?_; have TC2 : True := trivial) | (clear TC2; refine wpl_v rfl _ (exec_slice_every ei23.t (.tmp 95) none (some (.tmp 98)) rfl _ V99 rfl none (some (.int .i64 ((B.length : Int) - 1))) rfl rfl HV99.out _) ?_; have TD : True := trivial) | (clear TD; change Held _))
  unfold Held
  refine Or.inl ?_
  refine (C99.out _ HXD.out HWD.out).mono ?_
  rintro e wf ⟨rfl, hxf⟩
  have HXF := Lib.hid (HXD.out.trans hxf)
  have HOF := Lib.hid (HOD.out.grow hxf)
  clear hxf
  have TE : True := trivial
  have hkk := HKK.out
  have hkl := HBL.out
  go_wp2_with (first | (clear TE; refine wpl_store68 rfl _ _ rfl wf.heap.size (.int .u64 0) (.int .i64 0) (.slice none 0 0) (.slice none 0 0) (.int .u64 0) (.int .i64 0) (.slice none 0 0) (.slice none 0 0) rfl rfl (by simp [row68, Value.oneCell']) (heap_alloc_last wf _) ?_; intro wg hd hud; have hxd : Ext wf wg := ((Ext.refl wf).alloc _).upd_new hud (Nat.le_refl _); have HXG := Lib.hid (HXF.out.trans hxd); have hog := HOF.out.grow hxd; have hgf := hog.fr; obtain ⟨gb, cb, eb, hcb, hfb, hltb, hob, _, hsetb⟩ := OwnB.set hog.own k (by have := HBL.out; omega); injection eb with eb1 eb2 eb3; subst eb1; subst eb3; clear eb2; rw [HT.out] at hcb; have hgw : w.heap.size ≤ gb := hgf gb hob; have HSETB := Lib.hid (hsetb (t ^^^ y)); clear hd hud hxd hsetb hog hgf hob; have TF : True := trivial) | (go_at_call 68; clear TF; go_must (refine (CSET.out _ (Ext.setCell_new HXG.out trivial hgw) (by have h := Own.rd HSETB.out; rw [HBS.out] at h; rw [HBSL.out] at h; exact Bs.of_rd h HBSL.out.symm rfl)).mono ?_; rintro e wh ⟨rfl, hxh⟩; have HXH := Lib.hid ((Ext.setCell_new HXG.out trivial hgw).trans hxh); clear hxh; have TG : True := trivial)) | (clear TG; refine wpl_store68 rfl _ _ rfl wh.heap.size (.int .u64 0) (.int .i64 0) (.slice none 0 0) (.slice none 0 0) (.int .u64 0) (.int .i64 0) (.slice none 0 0) (.slice none 0 0) rfl rfl (by simp [row68, Value.oneCell']) (heap_alloc_last wh _) ?_; intro wi hd hud; have hxd : Ext wh wi := ((Ext.refl wh).alloc _).upd_new hud (Nat.le_refl _); have HXI := Lib.hid (HXH.out.trans hxd); clear hd hud hxd) | (go_at_call 63; go_must (refine (known8_any _).mono ?_; rintro e wk ⟨rfl, hxk⟩; have HXK := Lib.hid hxk; clear hxk)))
  go_ret
  exact ⟨rfl, HXI.out.trans HXK.out⟩
theorem sback_law
    (kv : Value) (key : List UInt8) (x : Se) (at' bit : Nat) (more : UInt8) (w : World) (hK : Bs w kv key) (hx : SeR w x) (hx1 : x.sl.length ≤ 140737488355328) (hx2 : x.su.length ≤ 4398046511104)
    (hat : at' ≤ 65535) (hbit : bit < 256)
 : Calls Try.prog 22 #[kv, x.v, .int .u16 (at' : Int), .int .u8 (bit : Int), B8 more] w fun e w' => e = .returned (.bool true) ∧ Ext w w' := by
  by_cases hk : 100 < key.length
  · exact sback_key kv key x at' bit more w hK hx hx1 hx2 hk
  by_cases hn : 1000 < x.sl.length + 32 * x.su.length
  · exact sback_big kv key x at' bit more w hK hx hx1 hx2 (by omega) hn
  cases hr : rightB x.blk x.sl x.su with
  | false => exact sback_not kv key x at' bit more w hK hx hx1 hx2 (by omega) (by omega) hr
  | true =>
    obtain ⟨N, hN, _⟩ := right_bounds hr
    refine sback_good x.num N x.sl x.su x.sv x.gv kv key x ?_ at' bit hat hbit more w hK hx hx1 hx2 (by omega) (by omega) hr
    obtain ⟨a, b, c, d, e, f⟩ := x
    simp only at hN
    rw [hN]

end Go.Proofs.Ytapojpjmeadabaa
end

section
/- Arguments opened: byte slices, each within the row's own reach. -/
namespace Go.Proofs.Ytapojpjmeadabaa
open Go.ChangeShapes Go.WideShapes Go.ChangeAt Go.RowKit
set_option linter.unusedVariables false
set_option linter.unusedSimpArgs false
section
open Go.ChangeShapes
variable {H : Type} {enc : TypeId × Value → H} {P : Program} {w : World} {base : Nat} {spare : Nat → Bool} {held : Bool}
theorem trodAll_five {t t' t'' t3 t4 : TypeId} {args : Array Value} {ds : List (DataW H)} {ps : List MemPlace} (h : DataW.TrodAll enc P w base spare held [t, t', t'', t3, t4] args.toList ds ps) :
    ∃ v v' v'' v3 v4 d d' d'' d3 d4 p p' p'' p3 p4, args = #[v, v', v'', v3, v4] ∧ ds = [d, d', d'', d3, d4] ∧ ps = p ++ p' ++ p'' ++ p3 ++ p4 ∧ DataW.Trod enc P w base spare held t v d p ∧ DataW.Trod enc P w base spare held t' v' d' p' ∧ DataW.Trod enc P w base spare held t'' v'' d'' p'' ∧ DataW.Trod enc P w base spare held t3 v3 d3 p3 ∧ DataW.Trod enc P w base spare held t4 v4 d4 p4 := by
  obtain ⟨v, vs, d, ds', p, q, hargs, rfl, rfl, hd, hrest⟩ := trodAll_cons h
  obtain ⟨v', vs', d', ds'', p', q', rfl, rfl, rfl, hd', hrest'⟩ := trodAll_cons hrest
  obtain ⟨v'', vs'', d'', ds''', p'', q'', rfl, rfl, rfl, hd'', hrest''⟩ := trodAll_cons hrest'
  obtain ⟨v3, vs3, d3, ds3, p3, q3, rfl, rfl, rfl, hd3, hrest3⟩ := trodAll_cons hrest''
  obtain ⟨v4, vs4, d4, ds4, p4, q4, rfl, rfl, rfl, hd4, hrest4⟩ := trodAll_cons hrest3
  obtain ⟨rfl, rfl, rfl⟩ := trodAll_nil hrest4
  exact ⟨v, v', v'', v3, v4, d, d', d'', d3, d4, p, p', p'', p3, p4, by cases args; simp_all, rfl, by simp, hd, hd', hd'', hd3, hd4⟩
end
section
variable {H : Type} {enc : TypeId × Value → H} {W : World}
set_option maxRecDepth 100000 in
theorem open_rss_sized {base : Nat} {v : Value} {d : DataW H} {p : List MemPlace} {ts : List TypeId} {ds : List (DataW H)} (hz0 : (DataW.weightsEach Try.prog ts ds).all (· ≤ reachBytes) = true) (j : Nat) (htj : ts[j]? = some 22) (hdj : ds[j]? = some d)
    (hval : Value.okWide Try.prog W .any base 22 v) (h : DataW.Trod enc Try.prog W 0 (fun _ => true) true 22 v d p) :
    ∃ vs ls, Rss W v vs ls ∧ ∀ b ∈ ls, b.length ≤ 140737488355328 := by
  obtain ⟨a1, len1, cap1, rfl⟩ := okWide_slice Try.underlying22 hval
  obtain ⟨fuel, hf⟩ := h
  rcases Go.Deep.open_slice1 Try.underlying22 cellsOf23 hf with ⟨hcs, hx⟩ | ⟨a, len, cap, m, n, V, D, Pl, hcs, _, hl, hm, hmm, hx, hcell⟩
  · simp [Value.cells] at hcs
    obtain ⟨rfl, rfl, rfl⟩ := hcs
    exact ⟨[], [], ⟨Rd.nil W 1, fun i hi => absurd hi (Nat.not_lt_zero _)⟩, fun b hb => by cases hb⟩
  · simp [Value.cells] at hcs
    obtain ⟨rfl, rfl, rfl⟩ := hcs
    simp only [if_true] at hmm
    subst hmm
    simp only [Prod.mk.injEq] at hx
    obtain ⟨rfl, _⟩ := hx
    have each : ∀ i, i < len1 → ∃ l : List UInt8, Bs W (V i) l ∧ l.length ≤ 140737488355328 := fun i hi => by
      exact bs_sized (hcell i (by omega)).2 (fun k hk => by
        have h1 := List.all_eq_true.1 hz0 _ (DataW.weights_mem_each htj hdj k (by
          simp only [DataW.weights, Try.underlying22, List.mem_cons, List.mem_append]
          exact Or.inr (Or.inl (weightsAll_mem (d := D i) (List.mem_map.2 ⟨i, List.mem_range.2 hi, rfl⟩) k hk))))
        simpa using h1)
    obtain ⟨L, hL⟩ := Go.Deep.choose_lt each
    refine ⟨(List.range len1).map V, (List.range len1).map L, ⟨?_, fun i hi => ?_⟩, fun b hb => ?_⟩
    · rw [List.length_map, List.length_range]
      refine ⟨by simp, some a, _, rfl, hl, hm, (fun h => by cases h), fun h0 => ?_⟩
      obtain ⟨ab, ao, spot⟩ := a
      have hspot : spot = none := by simpa [Addr.add] using World.cell?_spot (hcell 0 (by omega)).1
      subst hspot
      refine ⟨ab, ao, rfl, ?_, fun j u hj => ?_⟩
      · have := World.block_lt_of_cell? W _ (hcell 0 (by omega)).1
        simpa [Addr.add] using this
      · have hj' : j < len1 := by have := (List.getElem?_eq_some_iff.1 hj).1; simpa using this
        have hcj := (hcell j (by omega)).1
        rw [Addr.add_lit] at hcj
        rw [hcj]
        simp [hj'] at hj
        rw [hj]
    · have hi' : i < len1 := by simpa using hi
      refine ⟨V i, by simp [hi'], ?_⟩
      have e : ((List.range len1).map L).getD i [] = L i := by simp [List.getD, hi']
      rw [e]
      exact (hL i hi').1
    · obtain ⟨i, hi, rfl⟩ := List.mem_map.1 hb
      exact (hL i (List.mem_range.1 hi)).2
end
end Go.Proofs.Ytapojpjmeadabaa
end

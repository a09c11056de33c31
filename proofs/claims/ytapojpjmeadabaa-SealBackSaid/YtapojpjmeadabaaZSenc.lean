/- Senc: several texts in one. -/
import Derived.Test.YtapojpjmeadabaaZLawx
section
/- sacristanlaw08.SealEncodes. -/
namespace Go.Proofs.Ytapojpjmeadabaa
open Go.RowKit
set_option linter.unusedVariables false
set_option linter.unusedSimpArgs false
attribute [local go_sem] lt_ext cell?_ext frozen?_ext shape?_ext

set_option maxRecDepth 100000 in
set_option maxHeartbeats 4000000 in
theorem senc_key
    (kv : Value) (key : List UInt8) (x y : Se) (z : Int) (w : World) (hK : Bs w kv key) (hx : SeR w x) (hy : SeR w y) (hx1 : x.sl.length ≤ 140737488355328) (hx2 : x.su.length ≤ 4398046511104) (hy1 : y.sl.length ≤ 140737488355328) (hy2 : y.su.length ≤ 4398046511104)
    (hk : 100 < key.length)
 : Calls Try.prog 26 #[kv, x.v, y.v, .int .i64 z] w fun e w' => e = .returned (.bool true) ∧ Ext w w' := by
  obtain ⟨Ak, ck, rfl, _, _, _, _⟩ := hK.is
  obtain ⟨n1, hn1⟩ : ∃ n, x.sl.length + 32 * x.su.length = n := ⟨_, rfl⟩
  obtain ⟨n2, hn2⟩ : ∃ n, y.sl.length + 32 * y.su.length = n := ⟨_, rfl⟩
  have hn1b : n1 ≤ 1407374883553280 := by omega
  have hn2b : n2 ≤ 1407374883553280 := by omega
  have L1 : Hid (∀ w', Ext w w' → Calls Try.prog 61 #[.agg (seRow x)] w' fun e w'' => e = .returned (.int .i64 (n1 : Int)) ∧ Ext w' w'') := Lib.hid (fun w' h => by have := slong_any x w' (hx.ext h) (by omega) (by omega); rw [hn1] at this; exact this)
  have L2 : Hid (∀ w', Ext w w' → Calls Try.prog 61 #[.agg (seRow y)] w' fun e w'' => e = .returned (.int .i64 (n2 : Int)) ∧ Ext w' w'') := Lib.hid (fun w' h => by have := slong_any y w' (hy.ext h) (by omega) (by omega); rw [hn2] at this; exact this)
  have HNA := Lib.hid hn1
  have HNB := Lib.hid hn2
  have HK := Lib.hid hK
  have HX := Lib.hid hx
  have HY := Lib.hid hy
  have hb5 : At68 ((w.alloc (.cells #[.int .u64 (x.num : Int), .int .i64 x.blk, x.sv, x.gv] 68)).alloc (.cells #[.int .u64 (y.num : Int), .int .i64 y.blk, y.sv, y.gv] 68)) w.heap.size (seRow x) := At68.ext (heap_alloc_last w _) ((Ext.refl _).alloc _)
  have hb6 : At68 ((w.alloc (.cells #[.int .u64 (x.num : Int), .int .i64 x.blk, x.sv, x.gv] 68)).alloc (.cells #[.int .u64 (y.num : Int), .int .i64 y.blk, y.sv, y.gv] 68)) (w.heap.size + 1) (seRow y) := by
    have h := heap_alloc_last (w.alloc (.cells #[.int .u64 (x.num : Int), .int .i64 x.blk, x.sv, x.gv] 68)) (.cells #[.int .u64 (y.num : Int), .int .i64 y.blk, y.sv, y.gv] 68)
    rw [World.size_alloc] at h
    exact h
  have hx0 : Ext w ((w.alloc (.cells #[.int .u64 (x.num : Int), .int .i64 x.blk, x.sv, x.gv] 68)).alloc (.cells #[.int .u64 (y.num : Int), .int .i64 y.blk, y.sv, y.gv] 68)) := ((Ext.refl w).alloc _).alloc _
  have HB5 := Lib.hid hb5
  have HB6 := Lib.hid hb6
  have HX0 := Lib.hid hx0
  have T1 : True := trivial
  clear hx hy hn1 hn2 hb5 hb6 hx0 hK
  have HDK : Hid (decide (100 < (key.length : Int)) = true) := Lib.hid (decide_eq_true (by omega))
  go_enter Try.func26, Try.ntmps26
  go_wp2_with (first | (refine wpl_v ?_ _ (exec_gtr (.tmp 14) 100 3 rfl (key.length : Int) rfl rfl _ HDK.out _) ?_; rfl) | (exact TQ.elim; refine wpl_v ?_ _ (exec_gtr (.tmp 18) 1000 3 rfl (n1 : Int) rfl rfl _ HD1.out _) ?_; rfl) | (exact TQ.elim; refine wpl_v ?_ _ (exec_gtr (.tmp 23) 1000 3 rfl (n2 : Int) rfl rfl _ HD2.out _) ?_; rfl) | (clear TX; refine wpl_v ?_ _ (exec_load68 (.tmp 5) rfl w.heap.size rfl _ _ _ _ _ HB5.out) ?_; rfl) | (go_at_call 61; clear T1; go_must (refine (L1.out _ HX0.out).mono ?_; rintro e w2 ⟨rfl, hx2⟩; have HX2 := Lib.hid (HX0.out.trans hx2); have HC5 := Lib.hid (HB5.out.ext hx2); have HC6 := Lib.hid (HB6.out.ext hx2); clear hx2; skip; have T2 : True := trivial)) | (clear TY; refine wpl_v ?_ _ (exec_load68 (.tmp 6) rfl (w.heap.size + 1) rfl _ _ _ _ _ HC6.out) ?_; rfl) | (go_at_call 61; clear T2; go_must (refine (L2.out _ HX2.out).mono ?_; rintro e w3 ⟨rfl, hx3⟩; have HX3 := Lib.hid (HX2.out.trans hx3); have HD5 := Lib.hid (HC5.out.ext hx3); have HD6 := Lib.hid (HC6.out.ext hx3); clear hx3; have TZ : True := trivial)) | (go_at_call 63; go_must (refine (known8_any _).mono ?_; rintro e w9 ⟨rfl, hx9⟩; have HX9 := Lib.hid hx9; clear hx9)) )
  go_ret
  exact ⟨rfl, HX0.out.trans HX9.out⟩
set_option maxRecDepth 100000 in
set_option maxHeartbeats 4000000 in
theorem senc_x
    (kv : Value) (key : List UInt8) (x y : Se) (z : Int) (w : World) (hK : Bs w kv key) (hx : SeR w x) (hy : SeR w y) (hx1 : x.sl.length ≤ 140737488355328) (hx2 : x.su.length ≤ 4398046511104) (hy1 : y.sl.length ≤ 140737488355328) (hy2 : y.su.length ≤ 4398046511104)
    (hk : key.length ≤ 100) (hn : 1000 < x.sl.length + 32 * x.su.length)
 : Calls Try.prog 26 #[kv, x.v, y.v, .int .i64 z] w fun e w' => e = .returned (.bool true) ∧ Ext w w' := by
  obtain ⟨Ak, ck, rfl, _, _, _, _⟩ := hK.is
  obtain ⟨n1, hn1⟩ : ∃ n, x.sl.length + 32 * x.su.length = n := ⟨_, rfl⟩
  obtain ⟨n2, hn2⟩ : ∃ n, y.sl.length + 32 * y.su.length = n := ⟨_, rfl⟩
  have hn1b : n1 ≤ 1407374883553280 := by omega
  have hn2b : n2 ≤ 1407374883553280 := by omega
  have L1 : Hid (∀ w', Ext w w' → Calls Try.prog 61 #[.agg (seRow x)] w' fun e w'' => e = .returned (.int .i64 (n1 : Int)) ∧ Ext w' w'') := Lib.hid (fun w' h => by have := slong_any x w' (hx.ext h) (by omega) (by omega); rw [hn1] at this; exact this)
  have L2 : Hid (∀ w', Ext w w' → Calls Try.prog 61 #[.agg (seRow y)] w' fun e w'' => e = .returned (.int .i64 (n2 : Int)) ∧ Ext w' w'') := Lib.hid (fun w' h => by have := slong_any y w' (hy.ext h) (by omega) (by omega); rw [hn2] at this; exact this)
  have HNA := Lib.hid hn1
  have HNB := Lib.hid hn2
  have HK := Lib.hid hK
  have HX := Lib.hid hx
  have HY := Lib.hid hy
  have hb5 : At68 ((w.alloc (.cells #[.int .u64 (x.num : Int), .int .i64 x.blk, x.sv, x.gv] 68)).alloc (.cells #[.int .u64 (y.num : Int), .int .i64 y.blk, y.sv, y.gv] 68)) w.heap.size (seRow x) := At68.ext (heap_alloc_last w _) ((Ext.refl _).alloc _)
  have hb6 : At68 ((w.alloc (.cells #[.int .u64 (x.num : Int), .int .i64 x.blk, x.sv, x.gv] 68)).alloc (.cells #[.int .u64 (y.num : Int), .int .i64 y.blk, y.sv, y.gv] 68)) (w.heap.size + 1) (seRow y) := by
    have h := heap_alloc_last (w.alloc (.cells #[.int .u64 (x.num : Int), .int .i64 x.blk, x.sv, x.gv] 68)) (.cells #[.int .u64 (y.num : Int), .int .i64 y.blk, y.sv, y.gv] 68)
    rw [World.size_alloc] at h
    exact h
  have hx0 : Ext w ((w.alloc (.cells #[.int .u64 (x.num : Int), .int .i64 x.blk, x.sv, x.gv] 68)).alloc (.cells #[.int .u64 (y.num : Int), .int .i64 y.blk, y.sv, y.gv] 68)) := ((Ext.refl w).alloc _).alloc _
  have HB5 := Lib.hid hb5
  have HB6 := Lib.hid hb6
  have HX0 := Lib.hid hx0
  have T1 : True := trivial
  clear hx hy hn1 hn2 hb5 hb6 hx0 hK
  have HDK : Hid (decide (100 < (key.length : Int)) = false) := Lib.hid (decide_eq_false (by omega))
  have HD1 : Hid (decide (1000 < (n1 : Int)) = true) := Lib.hid (decide_eq_true (by have := HNA.out; omega))
  have TX : True := trivial
  go_enter Try.func26, Try.ntmps26
  go_wp2_with (first | (refine wpl_v ?_ _ (exec_gtr (.tmp 14) 100 3 rfl (key.length : Int) rfl rfl _ HDK.out _) ?_; rfl) | (skip; refine wpl_v ?_ _ (exec_gtr (.tmp 18) 1000 3 rfl (n1 : Int) rfl rfl _ HD1.out _) ?_; rfl) | (exact TQ.elim; refine wpl_v ?_ _ (exec_gtr (.tmp 23) 1000 3 rfl (n2 : Int) rfl rfl _ HD2.out _) ?_; rfl) | (clear TX; refine wpl_v ?_ _ (exec_load68 (.tmp 5) rfl w.heap.size rfl _ _ _ _ _ HB5.out) ?_; rfl) | (go_at_call 61; clear T1; go_must (refine (L1.out _ HX0.out).mono ?_; rintro e w2 ⟨rfl, hx2⟩; have HX2 := Lib.hid (HX0.out.trans hx2); have HC5 := Lib.hid (HB5.out.ext hx2); have HC6 := Lib.hid (HB6.out.ext hx2); clear hx2; skip; have T2 : True := trivial)) | (clear TY; refine wpl_v ?_ _ (exec_load68 (.tmp 6) rfl (w.heap.size + 1) rfl _ _ _ _ _ HC6.out) ?_; rfl) | (go_at_call 61; clear T2; go_must (refine (L2.out _ HX2.out).mono ?_; rintro e w3 ⟨rfl, hx3⟩; have HX3 := Lib.hid (HX2.out.trans hx3); have HD5 := Lib.hid (HC5.out.ext hx3); have HD6 := Lib.hid (HC6.out.ext hx3); clear hx3; have TZ : True := trivial)) | (go_at_call 63; go_must (refine (known8_any _).mono ?_; rintro e w9 ⟨rfl, hx9⟩; have HX9 := Lib.hid hx9; clear hx9)) )
  go_ret
  exact ⟨rfl, HX2.out.trans HX9.out⟩
set_option maxRecDepth 100000 in
set_option maxHeartbeats 4000000 in
theorem senc_y
    (kv : Value) (key : List UInt8) (x y : Se) (z : Int) (w : World) (hK : Bs w kv key) (hx : SeR w x) (hy : SeR w y) (hx1 : x.sl.length ≤ 140737488355328) (hx2 : x.su.length ≤ 4398046511104) (hy1 : y.sl.length ≤ 140737488355328) (hy2 : y.su.length ≤ 4398046511104)
    (hk : key.length ≤ 100) (hn : x.sl.length + 32 * x.su.length ≤ 1000) (hn' : 1000 < y.sl.length + 32 * y.su.length)
 : Calls Try.prog 26 #[kv, x.v, y.v, .int .i64 z] w fun e w' => e = .returned (.bool true) ∧ Ext w w' := by
  obtain ⟨Ak, ck, rfl, _, _, _, _⟩ := hK.is
  obtain ⟨n1, hn1⟩ : ∃ n, x.sl.length + 32 * x.su.length = n := ⟨_, rfl⟩
  obtain ⟨n2, hn2⟩ : ∃ n, y.sl.length + 32 * y.su.length = n := ⟨_, rfl⟩
  have hn1b : n1 ≤ 1407374883553280 := by omega
  have hn2b : n2 ≤ 1407374883553280 := by omega
  have L1 : Hid (∀ w', Ext w w' → Calls Try.prog 61 #[.agg (seRow x)] w' fun e w'' => e = .returned (.int .i64 (n1 : Int)) ∧ Ext w' w'') := Lib.hid (fun w' h => by have := slong_any x w' (hx.ext h) (by omega) (by omega); rw [hn1] at this; exact this)
  have L2 : Hid (∀ w', Ext w w' → Calls Try.prog 61 #[.agg (seRow y)] w' fun e w'' => e = .returned (.int .i64 (n2 : Int)) ∧ Ext w' w'') := Lib.hid (fun w' h => by have := slong_any y w' (hy.ext h) (by omega) (by omega); rw [hn2] at this; exact this)
  have HNA := Lib.hid hn1
  have HNB := Lib.hid hn2
  have HK := Lib.hid hK
  have HX := Lib.hid hx
  have HY := Lib.hid hy
  have hb5 : At68 ((w.alloc (.cells #[.int .u64 (x.num : Int), .int .i64 x.blk, x.sv, x.gv] 68)).alloc (.cells #[.int .u64 (y.num : Int), .int .i64 y.blk, y.sv, y.gv] 68)) w.heap.size (seRow x) := At68.ext (heap_alloc_last w _) ((Ext.refl _).alloc _)
  have hb6 : At68 ((w.alloc (.cells #[.int .u64 (x.num : Int), .int .i64 x.blk, x.sv, x.gv] 68)).alloc (.cells #[.int .u64 (y.num : Int), .int .i64 y.blk, y.sv, y.gv] 68)) (w.heap.size + 1) (seRow y) := by
    have h := heap_alloc_last (w.alloc (.cells #[.int .u64 (x.num : Int), .int .i64 x.blk, x.sv, x.gv] 68)) (.cells #[.int .u64 (y.num : Int), .int .i64 y.blk, y.sv, y.gv] 68)
    rw [World.size_alloc] at h
    exact h
  have hx0 : Ext w ((w.alloc (.cells #[.int .u64 (x.num : Int), .int .i64 x.blk, x.sv, x.gv] 68)).alloc (.cells #[.int .u64 (y.num : Int), .int .i64 y.blk, y.sv, y.gv] 68)) := ((Ext.refl w).alloc _).alloc _
  have HB5 := Lib.hid hb5
  have HB6 := Lib.hid hb6
  have HX0 := Lib.hid hx0
  have T1 : True := trivial
  clear hx hy hn1 hn2 hb5 hb6 hx0 hK
  have HDK : Hid (decide (100 < (key.length : Int)) = false) := Lib.hid (decide_eq_false (by omega))
  have HD1 : Hid (decide (1000 < (n1 : Int)) = false) := Lib.hid (decide_eq_false (by have := HNA.out; omega))
  have HD2 : Hid (decide (1000 < (n2 : Int)) = true) := Lib.hid (decide_eq_true (by have := HNB.out; omega))
  have TX : True := trivial
  go_enter Try.func26, Try.ntmps26
  go_wp2_with (first | (refine wpl_v ?_ _ (exec_gtr (.tmp 14) 100 3 rfl (key.length : Int) rfl rfl _ HDK.out _) ?_; rfl) | (skip; refine wpl_v ?_ _ (exec_gtr (.tmp 18) 1000 3 rfl (n1 : Int) rfl rfl _ HD1.out _) ?_; rfl) | (skip; refine wpl_v ?_ _ (exec_gtr (.tmp 23) 1000 3 rfl (n2 : Int) rfl rfl _ HD2.out _) ?_; rfl) | (clear TX; refine wpl_v ?_ _ (exec_load68 (.tmp 5) rfl w.heap.size rfl _ _ _ _ _ HB5.out) ?_; rfl) | (go_at_call 61; clear T1; go_must (refine (L1.out _ HX0.out).mono ?_; rintro e w2 ⟨rfl, hx2⟩; have HX2 := Lib.hid (HX0.out.trans hx2); have HC5 := Lib.hid (HB5.out.ext hx2); have HC6 := Lib.hid (HB6.out.ext hx2); clear hx2; have TY : True := trivial; have T2 : True := trivial)) | (clear TY; refine wpl_v ?_ _ (exec_load68 (.tmp 6) rfl (w.heap.size + 1) rfl _ _ _ _ _ HC6.out) ?_; rfl) | (go_at_call 61; clear T2; go_must (refine (L2.out _ HX2.out).mono ?_; rintro e w3 ⟨rfl, hx3⟩; have HX3 := Lib.hid (HX2.out.trans hx3); have HD5 := Lib.hid (HC5.out.ext hx3); have HD6 := Lib.hid (HC6.out.ext hx3); clear hx3; have TZ : True := trivial)) | (go_at_call 63; go_must (refine (known8_any _).mono ?_; rintro e w9 ⟨rfl, hx9⟩; have HX9 := Lib.hid hx9; clear hx9)) )
  go_ret
  exact ⟨rfl, HX3.out.trans HX9.out⟩
def FlR (num : Nat) (blk : Int) (fl : List UInt8) (su : List (List UInt8)) (u : Value) (w : World) : Prop := ∃ v g, u = .agg (seRow ⟨num, blk, fl, su, v, g⟩) ∧ SeR w ⟨num, blk, fl, su, v, g⟩
theorem FlR.ext {num : Nat} {blk : Int} {fl : List UInt8} {su : List (List UInt8)} (u : Value) (w w' : World) (hx : Ext w w') (h : FlR num blk fl su u w) : FlR num blk fl su u w' := by
  obtain ⟨v, g, h1, h2⟩ := h
  exact ⟨v, g, h1, h2.ext hx⟩
theorem slot_both (x : Se) (z : Int) (w : World) (hx : SeR w x) (hx1 : x.sl.length ≤ 140737488355328) (hz0 : -9223372036854775808 ≤ z) (hz1 : z ≤ 9223372036854775807) :
    ∃ s : Nat, (∀ w', Ext w w' → Calls Try.prog 75 #[.agg (seRow x), .int .i64 z] w' fun e w'' => e = .returned (.int .i64 (s : Int)) ∧ Ext w' w'') ∧ (∀ w', Ext w w' → Calls Try.prog 76 #[.agg (seRow x), .int .i64 z] w' fun e w'' => e = .returned (.int .i64 (s : Int)) ∧ Ext w' w'') := by
  obtain ⟨num, blk, sl, su, sv, gv⟩ := x
  have hg : ∃ a n c, gv = .slice a n c := by obtain ⟨_, _, e, _⟩ := hx.su.rd.is; exact ⟨_, _, _, e⟩
  by_cases hz : z < 0 ∨ (sl.length : Int) ≤ z / 8
  · exact ⟨0, fun w' h => slot_out _ _ sv gv sl z hz hz0 hz1 ⟨_, rfl⟩ ⟨_, rfl⟩ hg w' (hx.ext h).sl, fun w' h => rslot_out _ _ sv gv sl z hz hz0 hz1 ⟨_, rfl⟩ ⟨_, rfl⟩ hg w' (hx.ext h).sl⟩
  · obtain ⟨k, rfl⟩ : ∃ k : Nat, z = k := ⟨z.toNat, by omega⟩
    exact ⟨slotN sl k, fun w' h => slot_in _ _ sv gv sl k (by omega) (by omega) ⟨_, rfl⟩ ⟨_, rfl⟩ hg w' (hx.ext h).sl, fun w' h => rslot_in _ _ sv gv sl k (by omega) (by omega) ⟨_, rfl⟩ ⟨_, rfl⟩ hg w' (hx.ext h).sl⟩
set_option maxRecDepth 100000 in
set_option maxHeartbeats 8000000 in
theorem senc_good
    (kv : Value) (key : List UInt8) (x y : Se) (z : Int) (w : World) (hK : Bs w kv key) (hx : SeR w x) (hy : SeR w y) (hx1 : x.sl.length ≤ 140737488355328) (hx2 : x.su.length ≤ 4398046511104) (hy1 : y.sl.length ≤ 140737488355328) (hy2 : y.su.length ≤ 4398046511104)
    (hk : key.length ≤ 100) (hn : x.sl.length + 32 * x.su.length ≤ 1000) (hn' : y.sl.length + 32 * y.su.length ≤ 1000) (hz0 : -9223372036854775808 ≤ z) (hz1 : z ≤ 9223372036854775807)
 : Calls Try.prog 26 #[kv, x.v, y.v, .int .i64 z] w fun e w' => e = .returned (.bool true) ∧ Ext w w' := by
  obtain ⟨r, hr⟩ : ∃ r, rightB x.blk x.sl x.su = r := ⟨_, rfl⟩
  obtain ⟨q, hq⟩ : ∃ q, sameB x y = q := ⟨_, rfl⟩
  have EN : ∃ (LA : List UInt8) (c : Int), (∀ w', Ext w w' → Calls Try.prog 64 #[kv, .agg (seRow x)] w' fun e w'' => ∃ v, e = .returned (.tuple #[v, .int .i64 c]) ∧ Bs w'' v LA ∧ Ext w' w'') ∧ (∀ w', Ext w w' → Calls Try.prog 74 #[kv, .agg (seRow x)] w' fun e w'' => ∃ v, e = .returned (.tuple #[v, .int .i64 c]) ∧ Bs w'' v LA ∧ Ext w' w'') := by
    cases r
    · exact ⟨[], 2, fun w' h => (encode_not kv x w' (hx.ext h) hr).mono fun e w'' ⟨h1, h2⟩ => ⟨_, h1, Rd.nil _ _, h2⟩, fun w' h => (rencode_not kv x w' (hx.ext h) hx1 hr).mono fun e w'' ⟨h1, h2⟩ => ⟨_, h1, Rd.nil _ _, h2⟩⟩
    · exact ⟨_, 0, fun w' h => (encode_any kv x key w' (Rd.ext hK h) (by omega) (hx.ext h) hr).mono fun e w'' ⟨v, h1, h2⟩ => ⟨v, h1, h2.bs, h2.ext⟩, fun w' h => rencode_any kv x key w' (Rd.ext hK h) (by omega) (hx.ext h) hr⟩
  obtain ⟨LA, c, e1, e2⟩ := EN
  obtain ⟨s, s1, s2⟩ := slot_both x z w hx hx1 hz0 hz1
  have E1 := Lib.hid e1
  have E2 := Lib.hid e2
  have S1 := Lib.hid s1
  have S2 := Lib.hid s2
  have S49 : Hid (∀ va vb w', Bs w' va LA → Bs w' vb LA → Calls Try.prog 49 #[va, vb] w' fun e w'' => e = .returned (.bool true) ∧ Ext w' w'') := Lib.hid (fun va vb w' ha hb => (same_any va vb LA LA w' ha hb).mono fun e w'' ⟨h1, h2⟩ => by rw [decide_eq_true rfl] at h1; exact ⟨h1, h2 ▸ Ext.refl _⟩)
  have RA : Hid (∀ w', Ext w w' → Calls Try.prog 67 #[.agg (seRow x)] w' fun e w'' => e = .returned (.bool r) ∧ Ext w' w'') := Lib.hid (fun w' h => by have := sright_any x w' (hx.ext h); rw [hr] at this; exact this)
  have RB : Hid (∀ w', Ext w w' → Calls Try.prog 62 #[.agg (seRow x)] w' fun e w'' => e = .returned (.bool r) ∧ Ext w' w'') := Lib.hid (fun w' h => by have := rright_any x w' (hx.ext h) hx1; rw [hr] at this; exact this)
  have QA : Hid (∀ w', Ext w w' → Calls Try.prog 78 #[.agg (seRow x), .agg (seRow y)] w' fun e w'' => e = .returned (.bool q) ∧ Ext w' w'') := Lib.hid (fun w' h => by have := ssame_any x y w' (hx.ext h) (hy.ext h); rw [hq] at this; exact this)
  have QB : Hid (∀ w', Ext w w' → Calls Try.prog 66 #[.agg (seRow x), .agg (seRow y)] w' fun e w'' => e = .returned (.bool q) ∧ Ext w' w'') := Lib.hid (fun w' h => by have := rsame_any x y w' (hx.ext h) (hy.ext h) (by omega); rw [hq] at this; exact this)
  obtain ⟨fl, hfl⟩ : ∃ fl, flipL x.sl x.blk z = fl := ⟨_, rfl⟩
  have FA : Hid (∀ w', Ext w w' → Calls Try.prog 69 #[.agg (seRow x), .int .i64 z] w' fun e w'' => ∃ u, e = .returned u ∧ FlR x.num x.blk fl x.su u w'' ∧ Ext w' w'') := Lib.hid (fun w' h => (flip_any x z w' (hx.ext h) (by omega) (by omega) hz0 hz1).mono fun e w'' ⟨v7, v10, h1, h2, h3⟩ => ⟨_, h1, ⟨v7, v10, rfl, ⟨by rw [← hfl]; exact h2.bs, h3.dgs, hx.num, hx.lo, hx.hi⟩⟩, h2.ext⟩)
  have FB : Hid (∀ w', Ext w w' → Calls Try.prog 77 #[.agg (seRow x), .int .i64 z] w' fun e w'' => ∃ u, e = .returned u ∧ FlR x.num x.blk fl x.su u w'' ∧ Ext w' w'') := Lib.hid (fun w' h => (rflip_any x z w' (hx.ext h) (by omega) hz0 hz1).mono fun e w'' ⟨v7, h1, h2, h3⟩ => ⟨_, h1, ⟨v7, x.gv, rfl, ⟨by rw [← hfl]; exact h2, hx.su.ext (h.trans h3), hx.num, hx.lo, hx.hi⟩⟩, h3⟩)
  have FS : Hid (∀ u u' w', FlR x.num x.blk fl x.su u w' → FlR x.num x.blk fl x.su u' w' → Calls Try.prog 66 #[u, u'] w' fun e w'' => e = .returned (.bool true) ∧ Ext w' w'') := Lib.hid (fun u u' w' ⟨v, g, h1, h2⟩ ⟨v', g', h3, h4⟩ => by
    subst h1; subst h3
    have := rsame_any _ _ w' h2 h4 (show x.su.length ≤ _ by omega)
    rw [show sameB (⟨x.num, x.blk, fl, x.su, v, g⟩ : Se) ⟨x.num, x.blk, fl, x.su, v', g'⟩ = true by simp [sameB]] at this
    exact this)
  clear e1 e2 s1 s2 hr hq hfl
  obtain ⟨Ak, ck, rfl, _, _, _, _⟩ := hK.is
  obtain ⟨n1, hn1⟩ : ∃ n, x.sl.length + 32 * x.su.length = n := ⟨_, rfl⟩
  obtain ⟨n2, hn2⟩ : ∃ n, y.sl.length + 32 * y.su.length = n := ⟨_, rfl⟩
  have hn1b : n1 ≤ 1407374883553280 := by omega
  have hn2b : n2 ≤ 1407374883553280 := by omega
  have L1 : Hid (∀ w', Ext w w' → Calls Try.prog 61 #[.agg (seRow x)] w' fun e w'' => e = .returned (.int .i64 (n1 : Int)) ∧ Ext w' w'') := Lib.hid (fun w' h => by have := slong_any x w' (hx.ext h) (by omega) (by omega); rw [hn1] at this; exact this)
  have L2 : Hid (∀ w', Ext w w' → Calls Try.prog 61 #[.agg (seRow y)] w' fun e w'' => e = .returned (.int .i64 (n2 : Int)) ∧ Ext w' w'') := Lib.hid (fun w' h => by have := slong_any y w' (hy.ext h) (by omega) (by omega); rw [hn2] at this; exact this)
  have HNA := Lib.hid hn1
  have HNB := Lib.hid hn2
  have HK := Lib.hid hK
  have HX := Lib.hid hx
  have HY := Lib.hid hy
  have hb5 : At68 ((w.alloc (.cells #[.int .u64 (x.num : Int), .int .i64 x.blk, x.sv, x.gv] 68)).alloc (.cells #[.int .u64 (y.num : Int), .int .i64 y.blk, y.sv, y.gv] 68)) w.heap.size (seRow x) := At68.ext (heap_alloc_last w _) ((Ext.refl _).alloc _)
  have hb6 : At68 ((w.alloc (.cells #[.int .u64 (x.num : Int), .int .i64 x.blk, x.sv, x.gv] 68)).alloc (.cells #[.int .u64 (y.num : Int), .int .i64 y.blk, y.sv, y.gv] 68)) (w.heap.size + 1) (seRow y) := by
    have h := heap_alloc_last (w.alloc (.cells #[.int .u64 (x.num : Int), .int .i64 x.blk, x.sv, x.gv] 68)) (.cells #[.int .u64 (y.num : Int), .int .i64 y.blk, y.sv, y.gv] 68)
    rw [World.size_alloc] at h
    exact h
  have hx0 : Ext w ((w.alloc (.cells #[.int .u64 (x.num : Int), .int .i64 x.blk, x.sv, x.gv] 68)).alloc (.cells #[.int .u64 (y.num : Int), .int .i64 y.blk, y.sv, y.gv] 68)) := ((Ext.refl w).alloc _).alloc _
  have HB5 := Lib.hid hb5
  have HB6 := Lib.hid hb6
  have HX0 := Lib.hid hx0
  have T1 : True := trivial
  clear hx hy hn1 hn2 hb5 hb6 hx0 hK
  have HDK : Hid (decide (100 < (key.length : Int)) = false) := Lib.hid (decide_eq_false (by omega))
  have HD1 : Hid (decide (1000 < (n1 : Int)) = false) := Lib.hid (decide_eq_false (by have := HNA.out; omega))
  have HD2 : Hid (decide (1000 < (n2 : Int)) = false) := Lib.hid (decide_eq_false (by have := HNB.out; omega))
  have TX : True := trivial
  go_enter Try.func26, Try.ntmps26
  go_wp2_with (first | (refine wpl_v ?_ _ (exec_gtr (.tmp 14) 100 3 rfl (key.length : Int) rfl rfl _ HDK.out _) ?_; rfl) | (skip; refine wpl_v ?_ _ (exec_gtr (.tmp 18) 1000 3 rfl (n1 : Int) rfl rfl _ HD1.out _) ?_; rfl) | (skip; refine wpl_v ?_ _ (exec_gtr (.tmp 23) 1000 3 rfl (n2 : Int) rfl rfl _ HD2.out _) ?_; rfl) | (clear TX; refine wpl_v ?_ _ (exec_load68 (.tmp 5) rfl w.heap.size rfl _ _ _ _ _ HB5.out) ?_; rfl) | (go_at_call 61; clear T1; go_must (refine (L1.out _ HX0.out).mono ?_; rintro e w2 ⟨rfl, hx2⟩; have HX2 := Lib.hid (HX0.out.trans hx2); have HC5 := Lib.hid (HB5.out.ext hx2); have HC6 := Lib.hid (HB6.out.ext hx2); clear hx2; have TY : True := trivial; have T2 : True := trivial)) | (clear TY; refine wpl_v ?_ _ (exec_load68 (.tmp 6) rfl (w.heap.size + 1) rfl _ _ _ _ _ HC6.out) ?_; rfl) | (go_at_call 61; clear T2; go_must (refine (L2.out _ HX2.out).mono ?_; rintro e w3 ⟨rfl, hx3⟩; have HX3 := Lib.hid (HX2.out.trans hx3); have HD5 := Lib.hid (HC5.out.ext hx3); have HD6 := Lib.hid (HC6.out.ext hx3); clear hx3; have TZ : True := trivial)) | (go_at_call 63; go_must (refine (known8_any _).mono ?_; rintro e w9 ⟨rfl, hx9⟩; have HX9 := Lib.hid hx9; clear hx9)) | (clear TZ; refine wpl_load68 rfl _ rfl w.heap.size rfl _ _ _ _ HD5.out ?_; have TA : True := trivial) | (go_at_call 64; go_must (refine (E1.out _ HX3.out).mono ?_; rintro e w4 ⟨v4, rfl, hb4, hx4⟩; obtain ⟨A4, c4, e4, _, _, _, _⟩ := hb4.is; rw [e4]; rw [e4] at hb4; have HA4 := Lib.hid hb4; have HX4 := Lib.hid (HX3.out.trans hx4); have HE5 := Lib.hid (HD5.out.ext hx4); have HE6 := Lib.hid (HD6.out.ext hx4); clear e4 hb4 hx4; have TB : True := trivial)) | (clear TB; refine wpl_load68 rfl _ rfl w.heap.size rfl _ _ _ _ HE5.out ?_) | (go_at_call 74; go_must (refine (E2.out _ HX4.out).mono ?_; rintro e w5 ⟨v5, rfl, hb5, hx5⟩; obtain ⟨A5, c5, e5, _, _, _, _⟩ := hb5.is; rw [e5]; rw [e5] at hb5; have HA5 := Lib.hid hb5; have HA45 := Lib.hid (Rd.ext HA4.out hx5); have HX5 := Lib.hid (HX4.out.trans hx5); have HF5 := Lib.hid (HE5.out.ext hx5); have HF6 := Lib.hid (HE6.out.ext hx5); clear e5 hb5 hx5)))
  refine wp_region_m (by kernel_rfl) (by kernel_rfl) ?_; try simp only [Act.put, List.setIfInBounds_toArray, List.set_cons_succ, List.set_cons_zero]
  refine gq rfl rfl rfl rfl (fun K hK => ?_); go_big_quiet_op; refine hK _ ?_; clear hK K
  refine gq rfl rfl rfl rfl (fun K hK => ?_); go_big_quiet_op; refine hK _ ?_; clear hK K
  refine gc rfl rfl rfl rfl 49 #[.slice A4 LA.length c4, .slice A5 LA.length c5] (fun _ => by go_simp) (.bool true) (fun z => S49.out _ _ _ (Rd.ext HA45.out (ext_ext _ z)) (Rd.ext HA5.out (ext_ext _ z))) ?_
  simp only [Act.put, List.setIfInBounds_toArray, List.set_cons_succ, List.set_cons_zero]
  refine gq rfl rfl rfl rfl (fun K hK => ?_); go_big_quiet_op; refine hK _ ?_; clear hK K
  refine gq rfl rfl rfl rfl (fun K hK => ?_); go_big_quiet_op; refine hK _ ?_; clear hK K
  refine gq rfl rfl rfl rfl (fun K hK => ?_); go_big_quiet_op; refine hK _ ?_; clear hK K
  refine gq rfl rfl rfl rfl (fun K hK => ?_); go_big_quiet_op; refine hK _ ?_; clear hK K
  refine gq rfl rfl rfl rfl (fun K hK => ?_); go_big_quiet_op; refine hK _ ?_; clear hK K
  refine gq rfl rfl rfl rfl (fun K hK => ?_); go_big_quiet_op; refine hK _ ?_; clear hK K
  refine gx rfl rfl rfl rfl (.agg (seRow x)) (fun z => exec_load68 (.tmp 5) rfl (w.heap.size) rfl _ _ _ _ _ ((HF5.out).ext (ext_ext _ z))) ?_
  simp only [Act.put, List.setIfInBounds_toArray, List.set_cons_succ, List.set_cons_zero]
  refine gc rfl rfl rfl rfl 67 #[.agg (seRow x)] (fun _ => by go_simp) (.bool r) (fun z => RA.out _ (HX5.out.trans (ext_ext _ z))) ?_
  simp only [Act.put, List.setIfInBounds_toArray, List.set_cons_succ, List.set_cons_zero]
  refine gx rfl rfl rfl rfl (.agg (seRow x)) (fun z => exec_load68 (.tmp 5) rfl (w.heap.size) rfl _ _ _ _ _ ((HF5.out).ext (ext_ext _ z))) ?_
  simp only [Act.put, List.setIfInBounds_toArray, List.set_cons_succ, List.set_cons_zero]
  refine gc rfl rfl rfl rfl 62 #[.agg (seRow x)] (fun _ => by go_simp) (.bool r) (fun z => RB.out _ (HX5.out.trans (ext_ext _ z))) ?_
  simp only [Act.put, List.setIfInBounds_toArray, List.set_cons_succ, List.set_cons_zero]
  refine ge rfl rfl rfl rfl (.bool true) (fun _ => by cases r <;> go_simp) ?_
  simp only [Act.put, List.setIfInBounds_toArray, List.set_cons_succ, List.set_cons_zero]
  refine gq rfl rfl rfl rfl (fun K hK => ?_); go_big_quiet_op; refine hK _ ?_; clear hK K
  refine gq rfl rfl rfl rfl (fun K hK => ?_); go_big_quiet_op; refine hK _ ?_; clear hK K
  refine gx rfl rfl rfl rfl (.agg (seRow x)) (fun z => exec_load68 (.tmp 5) rfl (w.heap.size) rfl _ _ _ _ _ ((HF5.out).ext (ext_ext _ z))) ?_
  simp only [Act.put, List.setIfInBounds_toArray, List.set_cons_succ, List.set_cons_zero]
  refine gq rfl rfl rfl rfl (fun K hK => ?_); go_big_quiet_op; refine hK _ ?_; clear hK K
  refine gc rfl rfl rfl rfl 75 #[.agg (seRow x), .int .i64 z] (fun _ => by go_simp) (.int .i64 (s : Int)) (fun z => S1.out _ (HX5.out.trans (ext_ext _ z))) ?_
  simp only [Act.put, List.setIfInBounds_toArray, List.set_cons_succ, List.set_cons_zero]
  refine gx rfl rfl rfl rfl (.agg (seRow x)) (fun z => exec_load68 (.tmp 5) rfl (w.heap.size) rfl _ _ _ _ _ ((HF5.out).ext (ext_ext _ z))) ?_
  simp only [Act.put, List.setIfInBounds_toArray, List.set_cons_succ, List.set_cons_zero]
  refine gq rfl rfl rfl rfl (fun K hK => ?_); go_big_quiet_op; refine hK _ ?_; clear hK K
  refine gc rfl rfl rfl rfl 76 #[.agg (seRow x), .int .i64 z] (fun _ => by go_simp) (.int .i64 (s : Int)) (fun z => S2.out _ (HX5.out.trans (ext_ext _ z))) ?_
  simp only [Act.put, List.setIfInBounds_toArray, List.set_cons_succ, List.set_cons_zero]
  refine gq rfl rfl rfl rfl (fun K hK => ?_); go_big_quiet_op; refine hK _ ?_; clear hK K
  refine gq rfl rfl rfl rfl (fun K hK => ?_); go_big_quiet_op; refine hK _ ?_; clear hK K
  refine gq rfl rfl rfl rfl (fun K hK => ?_); go_big_quiet_op; refine hK _ ?_; clear hK K
  refine gx rfl rfl rfl rfl (.agg (seRow x)) (fun z => exec_load68 (.tmp 5) rfl (w.heap.size) rfl _ _ _ _ _ ((HF5.out).ext (ext_ext _ z))) ?_
  simp only [Act.put, List.setIfInBounds_toArray, List.set_cons_succ, List.set_cons_zero]
  refine gq rfl rfl rfl rfl (fun K hK => ?_); go_big_quiet_op; refine hK _ ?_; clear hK K
  refine gcp rfl rfl rfl rfl 69 #[.agg (seRow x), .int .i64 z] (fun _ => by go_simp) 66 rfl (FlR x.num x.blk fl x.su) FlR.ext (fun z => FA.out _ (HX5.out.trans (ext_ext _ z))) ?_
  simp only [Act.put, List.setIfInBounds_toArray, List.set_cons_succ, List.set_cons_zero]
  refine gx rfl rfl rfl rfl (.agg (seRow x)) (fun z => exec_load68 (.tmp 5) rfl (w.heap.size) rfl _ _ _ _ _ ((HF5.out).ext (ext_ext _ z))) ?_
  simp only [Act.put, List.setIfInBounds_toArray, List.set_cons_succ, List.set_cons_zero]
  refine gq rfl rfl rfl rfl (fun K hK => ?_); go_big_quiet_op; refine hK _ ?_; clear hK K
  refine gcp rfl rfl rfl rfl 77 #[.agg (seRow x), .int .i64 z] (fun _ => by go_simp) 69 rfl (FlR x.num x.blk fl x.su) FlR.ext (fun z => FB.out _ (HX5.out.trans (ext_ext _ z))) ?_
  simp only [Act.put, List.setIfInBounds_toArray, List.set_cons_succ, List.set_cons_zero]
  refine gcx rfl rfl 66 (fun xs => #[xs 66, xs 69]) (.bool true) (fun xs => rfl) (fun xs w => by simp only [fillM, Act.put, List.setIfInBounds_toArray, List.set_cons_succ, List.set_cons_zero]; go_simp) (fun xs z hk => FS.out _ _ _ (hk 66 (by decide) (by simp) _ rfl) (hk 69 (by decide) (by simp) _ rfl)) ?_
  simp only [Act.put, List.setIfInBounds_toArray, List.set_cons_succ, List.set_cons_zero]
  refine gq rfl rfl rfl rfl (fun K hK => ?_); go_big_quiet_op; refine hK _ ?_; clear hK K
  refine gq rfl rfl rfl rfl (fun K hK => ?_); go_big_quiet_op; refine hK _ ?_; clear hK K
  refine gx rfl rfl rfl rfl (.agg (seRow x)) (fun z => exec_load68 (.tmp 5) rfl (w.heap.size) rfl _ _ _ _ _ ((HF5.out).ext (ext_ext _ z))) ?_
  simp only [Act.put, List.setIfInBounds_toArray, List.set_cons_succ, List.set_cons_zero]
  refine gx rfl rfl rfl rfl (.agg (seRow y)) (fun z => exec_load68 (.tmp 6) rfl ((w.heap.size + 1)) rfl _ _ _ _ _ ((HF6.out).ext (ext_ext _ z))) ?_
  simp only [Act.put, List.setIfInBounds_toArray, List.set_cons_succ, List.set_cons_zero]
  refine gc rfl rfl rfl rfl 78 #[.agg (seRow x), .agg (seRow y)] (fun _ => by go_simp) (.bool q) (fun z => QA.out _ (HX5.out.trans (ext_ext _ z))) ?_
  simp only [Act.put, List.setIfInBounds_toArray, List.set_cons_succ, List.set_cons_zero]
  refine gx rfl rfl rfl rfl (.agg (seRow x)) (fun z => exec_load68 (.tmp 5) rfl (w.heap.size) rfl _ _ _ _ _ ((HF5.out).ext (ext_ext _ z))) ?_
  simp only [Act.put, List.setIfInBounds_toArray, List.set_cons_succ, List.set_cons_zero]
  refine gx rfl rfl rfl rfl (.agg (seRow y)) (fun z => exec_load68 (.tmp 6) rfl ((w.heap.size + 1)) rfl _ _ _ _ _ ((HF6.out).ext (ext_ext _ z))) ?_
  simp only [Act.put, List.setIfInBounds_toArray, List.set_cons_succ, List.set_cons_zero]
  refine gc rfl rfl rfl rfl 66 #[.agg (seRow x), .agg (seRow y)] (fun _ => by go_simp) (.bool q) (fun z => QB.out _ (HX5.out.trans (ext_ext _ z))) ?_
  simp only [Act.put, List.setIfInBounds_toArray, List.set_cons_succ, List.set_cons_zero]
  refine ge rfl rfl rfl rfl (.bool true) (fun _ => by cases q <;> go_simp) ?_
  simp only [Act.put, List.setIfInBounds_toArray, List.set_cons_succ, List.set_cons_zero]
  refine gq rfl rfl rfl rfl (fun K hK => ?_); go_big_quiet_op; refine hK _ ?_; clear hK K
  refine gq rfl rfl rfl rfl (fun K hK => ?_); go_big_quiet_op; refine hK _ ?_; clear hK K
  refine gc rfl rfl rfl rfl 63 #[] (fun _ => by go_simp) (.bool true) (fun z => known8_any _) ?_
  simp only [Act.put, List.setIfInBounds_toArray, List.set_cons_succ, List.set_cons_zero]
  refine gq rfl rfl rfl rfl (fun K hK => ?_); go_big_quiet_op; refine hK _ ?_; clear hK K
  refine gq rfl rfl rfl rfl (fun K hK => ?_); go_big_quiet_op; refine hK _ ?_; clear hK K
  refine gm_end_at rfl [(69, FlR x.num x.blk fl x.su), (66, FlR x.num x.blk fl x.su)] rfl (fun xs z hk => ?_)
  clear hk
  simp only [fillM, Act.put, List.setIfInBounds_toArray, List.set_cons_succ, List.set_cons_zero]
  go_wp2
  go_ret
  exact ⟨rfl, HX5.out.trans (ext_ext _ z)⟩
theorem senc_law
    (kv : Value) (key : List UInt8) (x y : Se) (z : Int) (w : World) (hK : Bs w kv key) (hx : SeR w x) (hy : SeR w y) (hx1 : x.sl.length ≤ 140737488355328) (hx2 : x.su.length ≤ 4398046511104) (hy1 : y.sl.length ≤ 140737488355328) (hy2 : y.su.length ≤ 4398046511104)
    (hz0 : -9223372036854775808 ≤ z) (hz1 : z ≤ 9223372036854775807)
 : Calls Try.prog 26 #[kv, x.v, y.v, .int .i64 z] w fun e w' => e = .returned (.bool true) ∧ Ext w w' := by
  by_cases hk : 100 < key.length
  · exact senc_key kv key x y z w hK hx hy hx1 hx2 hy1 hy2 hk
  by_cases hn : 1000 < x.sl.length + 32 * x.su.length
  · exact senc_x kv key x y z w hK hx hy hx1 hx2 hy1 hy2 (by omega) hn
  by_cases hn' : 1000 < y.sl.length + 32 * y.su.length
  · exact senc_y kv key x y z w hK hx hy hx1 hx2 hy1 hy2 (by omega) (by omega) hn'
  exact senc_good kv key x y z w hK hx hy hx1 hx2 hy1 hy2 (by omega) (by omega) (by omega) hz0 hz1
end Go.Proofs.Ytapojpjmeadabaa
end

/- Scho: several texts in one. -/
import Derived.Test.YtapojpjmeadabaaZLawx
import Derived.Test.YtapojpjmeadabaaZRegs
import Derived.Test.YtapojpjmeadabaaZRegw
section
/- sacristanlaw08.SealChooses. -/
namespace Go.Proofs.Ytapojpjmeadabaa
open Go.RowKit
set_option linter.unusedVariables false
set_option linter.unusedSimpArgs false
attribute [local go_sem] lt_ext cell?_ext frozen?_ext shape?_ext

theorem good_nil (key : List UInt8) : good key [] = false := by
  unfold good
  rw [decide_eq_false (show ¬ ([] : List UInt8).length = flong [] by unfold flong; simp only [List.length_nil]; omega)]
  simp
theorem pick_two (key : List UInt8) (n a b : Nat) (C D : List UInt8) (hC : good key C = true) (hD : good key D = true) (hca : fnum C = a) (hdb : fnum D = b) : pick key n [C, D] = if a = n then some C else if b = n then some D else none := by
  unfold pick
  simp only [List.find?_cons, List.find?_nil, hC, hD, hca, hdb, Bool.true_and]
  by_cases h1 : a = n
  · simp [h1]
  · by_cases h2 : b = n
    · simp [h1, h2]
    · simp [h1, h2]
theorem pick_three (key : List UInt8) (n a b : Nat) (C D : List UInt8) (hC : good key C = true) (hD : good key D = true) (hca : fnum C = a) (hdb : fnum D = b) : pick key n [D, [], C] = if b = n then some D else if a = n then some C else none := by
  unfold pick
  simp only [List.find?_cons, List.find?_nil, hC, hD, hca, hdb, Bool.true_and, good_nil, Bool.false_and]
  by_cases h1 : a = n
  · by_cases h2 : b = n
    · simp [h1, h2]
    · simp [h1, h2]
  · by_cases h2 : b = n
    · simp [h1, h2]
    · simp [h1, h2]
set_option maxRecDepth 100000 in
set_option maxHeartbeats 4000000 in
theorem scho_key
    (kv : Value) (key : List UInt8) (x : Se) (a b ct : Nat) (w : World) (hK : Bs w kv key) (hx : SeR w x) (hx1 : x.sl.length ≤ 140737488355328) (hx2 : x.su.length ≤ 4398046511104)
    (hk : 100 < key.length)
 : Calls Try.prog 24 #[kv, x.v, .int .u64 (a : Int), .int .u64 (b : Int), .int .u64 (ct : Int)] w fun e w' => e = .returned (.bool true) ∧ Ext w w' := by
  obtain ⟨Ak, ck, rfl, _, _, _, _⟩ := hK.is
  obtain ⟨n1, hn1⟩ : ∃ n, x.sl.length + 32 * x.su.length = n := ⟨_, rfl⟩
  have hn1b : n1 ≤ 1407374883553280 := by omega
  have L1 : Hid (∀ w', Ext w w' → Calls Try.prog 61 #[.agg (seRow x)] w' fun e w'' => e = .returned (.int .i64 (n1 : Int)) ∧ Ext w' w'') := Lib.hid (fun w' h => by have := slong_any x w' (hx.ext h) (by omega) (by omega); rw [hn1] at this; exact this)
  have RA : Hid (∀ w', Ext w w' → Calls Try.prog 62 #[.agg (seRow x)] w' fun e w'' => e = .returned (.bool (rightB x.blk x.sl x.su)) ∧ Ext w' w'') := Lib.hid (fun w' h => rright_any x w' (hx.ext h) hx1)
  have HNA := Lib.hid hn1
  have HK := Lib.hid hK
  have HX := Lib.hid hx
  have hb6 : At68 (w.alloc (.cells #[.int .u64 (x.num : Int), .int .i64 x.blk, x.sv, x.gv] 68)) w.heap.size (seRow x) := heap_alloc_last w _
  have hx0 : Ext w (w.alloc (.cells #[.int .u64 (x.num : Int), .int .i64 x.blk, x.sv, x.gv] 68)) := (Ext.refl w).alloc _
  have HB6 := Lib.hid hb6
  have HX0 := Lib.hid hx0
  clear hx hn1 hb6 hx0 hK
  have HR : Hid (rightB x.blk x.sl x.su = rightB x.blk x.sl x.su) := Lib.hid rfl
  have HDK : Hid (decide (100 < (key.length : Int)) = true) := Lib.hid (decide_eq_true (by omega))
  go_enter Try.func24, Try.ntmps24
  go_wp2_with (first | (refine wpl_v ?_ _ (exec_gtr (.tmp 24) 100 3 rfl (key.length : Int) rfl rfl _ HDK.out _) ?_; rfl) | (exact TQ.elim; refine wpl_v ?_ _ (exec_gtr (.tmp 28) 1000 3 rfl (n1 : Int) rfl rfl _ HD1.out _) ?_; rfl) | (clear TX; refine wpl_v ?_ _ (exec_load68 (.tmp 6) rfl w.heap.size rfl _ _ _ _ _ HB6.out) ?_; rfl) | (go_at_call 61; go_must (refine (L1.out _ HX0.out).mono ?_; rintro e w2 ⟨rfl, hx2⟩; have HX2 := Lib.hid (HX0.out.trans hx2); have HC6 := Lib.hid (HB6.out.ext hx2); clear hx2; skip)) | (clear TY; refine wpl_v ?_ _ (exec_load68 (.tmp 6) rfl w.heap.size rfl _ _ _ _ _ HC6.out) ?_; rfl) | (go_at_call 62; go_must (refine (RA.out _ HX2.out).mono ?_; rintro e w3 ⟨rfl, hx3⟩; rw [HR.out]; have HX3 := Lib.hid (HX2.out.trans hx3); have HD6 := Lib.hid (HC6.out.ext hx3); clear hx3; skip)) | (go_at_call 63; go_must (refine (known8_any _).mono ?_; rintro e w9 ⟨rfl, hx9⟩; have HX9 := Lib.hid hx9; clear hx9)) )
  go_ret
  exact ⟨rfl, HX0.out.trans HX9.out⟩
set_option maxRecDepth 100000 in
set_option maxHeartbeats 4000000 in
theorem scho_big
    (kv : Value) (key : List UInt8) (x : Se) (a b ct : Nat) (w : World) (hK : Bs w kv key) (hx : SeR w x) (hx1 : x.sl.length ≤ 140737488355328) (hx2 : x.su.length ≤ 4398046511104)
    (hk : key.length ≤ 100) (hn : 1000 < x.sl.length + 32 * x.su.length)
 : Calls Try.prog 24 #[kv, x.v, .int .u64 (a : Int), .int .u64 (b : Int), .int .u64 (ct : Int)] w fun e w' => e = .returned (.bool true) ∧ Ext w w' := by
  obtain ⟨Ak, ck, rfl, _, _, _, _⟩ := hK.is
  obtain ⟨n1, hn1⟩ : ∃ n, x.sl.length + 32 * x.su.length = n := ⟨_, rfl⟩
  have hn1b : n1 ≤ 1407374883553280 := by omega
  have L1 : Hid (∀ w', Ext w w' → Calls Try.prog 61 #[.agg (seRow x)] w' fun e w'' => e = .returned (.int .i64 (n1 : Int)) ∧ Ext w' w'') := Lib.hid (fun w' h => by have := slong_any x w' (hx.ext h) (by omega) (by omega); rw [hn1] at this; exact this)
  have RA : Hid (∀ w', Ext w w' → Calls Try.prog 62 #[.agg (seRow x)] w' fun e w'' => e = .returned (.bool (rightB x.blk x.sl x.su)) ∧ Ext w' w'') := Lib.hid (fun w' h => rright_any x w' (hx.ext h) hx1)
  have HNA := Lib.hid hn1
  have HK := Lib.hid hK
  have HX := Lib.hid hx
  have hb6 : At68 (w.alloc (.cells #[.int .u64 (x.num : Int), .int .i64 x.blk, x.sv, x.gv] 68)) w.heap.size (seRow x) := heap_alloc_last w _
  have hx0 : Ext w (w.alloc (.cells #[.int .u64 (x.num : Int), .int .i64 x.blk, x.sv, x.gv] 68)) := (Ext.refl w).alloc _
  have HB6 := Lib.hid hb6
  have HX0 := Lib.hid hx0
  clear hx hn1 hb6 hx0 hK
  have HR : Hid (rightB x.blk x.sl x.su = rightB x.blk x.sl x.su) := Lib.hid rfl
  have HDK : Hid (decide (100 < (key.length : Int)) = false) := Lib.hid (decide_eq_false (by omega))
  have HD1 : Hid (decide (1000 < (n1 : Int)) = true) := Lib.hid (decide_eq_true (by have := HNA.out; omega))
  have TX : True := trivial
  go_enter Try.func24, Try.ntmps24
  go_wp2_with (first | (refine wpl_v ?_ _ (exec_gtr (.tmp 24) 100 3 rfl (key.length : Int) rfl rfl _ HDK.out _) ?_; rfl) | (skip; refine wpl_v ?_ _ (exec_gtr (.tmp 28) 1000 3 rfl (n1 : Int) rfl rfl _ HD1.out _) ?_; rfl) | (clear TX; refine wpl_v ?_ _ (exec_load68 (.tmp 6) rfl w.heap.size rfl _ _ _ _ _ HB6.out) ?_; rfl) | (go_at_call 61; go_must (refine (L1.out _ HX0.out).mono ?_; rintro e w2 ⟨rfl, hx2⟩; have HX2 := Lib.hid (HX0.out.trans hx2); have HC6 := Lib.hid (HB6.out.ext hx2); clear hx2; skip)) | (clear TY; refine wpl_v ?_ _ (exec_load68 (.tmp 6) rfl w.heap.size rfl _ _ _ _ _ HC6.out) ?_; rfl) | (go_at_call 62; go_must (refine (RA.out _ HX2.out).mono ?_; rintro e w3 ⟨rfl, hx3⟩; rw [HR.out]; have HX3 := Lib.hid (HX2.out.trans hx3); have HD6 := Lib.hid (HC6.out.ext hx3); clear hx3; skip)) | (go_at_call 63; go_must (refine (known8_any _).mono ?_; rintro e w9 ⟨rfl, hx9⟩; have HX9 := Lib.hid hx9; clear hx9)) )
  go_ret
  exact ⟨rfl, HX2.out.trans HX9.out⟩
set_option maxRecDepth 100000 in
set_option maxHeartbeats 4000000 in
theorem scho_not
    (kv : Value) (key : List UInt8) (x : Se) (a b ct : Nat) (w : World) (hK : Bs w kv key) (hx : SeR w x) (hx1 : x.sl.length ≤ 140737488355328) (hx2 : x.su.length ≤ 4398046511104)
    (hk : key.length ≤ 100) (hn : x.sl.length + 32 * x.su.length ≤ 1000) (hr : rightB x.blk x.sl x.su = false)
 : Calls Try.prog 24 #[kv, x.v, .int .u64 (a : Int), .int .u64 (b : Int), .int .u64 (ct : Int)] w fun e w' => e = .returned (.bool true) ∧ Ext w w' := by
  obtain ⟨Ak, ck, rfl, _, _, _, _⟩ := hK.is
  obtain ⟨n1, hn1⟩ : ∃ n, x.sl.length + 32 * x.su.length = n := ⟨_, rfl⟩
  have hn1b : n1 ≤ 1407374883553280 := by omega
  have L1 : Hid (∀ w', Ext w w' → Calls Try.prog 61 #[.agg (seRow x)] w' fun e w'' => e = .returned (.int .i64 (n1 : Int)) ∧ Ext w' w'') := Lib.hid (fun w' h => by have := slong_any x w' (hx.ext h) (by omega) (by omega); rw [hn1] at this; exact this)
  have RA : Hid (∀ w', Ext w w' → Calls Try.prog 62 #[.agg (seRow x)] w' fun e w'' => e = .returned (.bool (rightB x.blk x.sl x.su)) ∧ Ext w' w'') := Lib.hid (fun w' h => rright_any x w' (hx.ext h) hx1)
  have HNA := Lib.hid hn1
  have HK := Lib.hid hK
  have HX := Lib.hid hx
  have hb6 : At68 (w.alloc (.cells #[.int .u64 (x.num : Int), .int .i64 x.blk, x.sv, x.gv] 68)) w.heap.size (seRow x) := heap_alloc_last w _
  have hx0 : Ext w (w.alloc (.cells #[.int .u64 (x.num : Int), .int .i64 x.blk, x.sv, x.gv] 68)) := (Ext.refl w).alloc _
  have HB6 := Lib.hid hb6
  have HX0 := Lib.hid hx0
  clear hx hn1 hb6 hx0 hK
  have HR := Lib.hid hr
  clear hr
  have HDK : Hid (decide (100 < (key.length : Int)) = false) := Lib.hid (decide_eq_false (by omega))
  have HD1 : Hid (decide (1000 < (n1 : Int)) = false) := Lib.hid (decide_eq_false (by have := HNA.out; omega))
  have TX : True := trivial
  go_enter Try.func24, Try.ntmps24
  go_wp2_with (first | (refine wpl_v ?_ _ (exec_gtr (.tmp 24) 100 3 rfl (key.length : Int) rfl rfl _ HDK.out _) ?_; rfl) | (skip; refine wpl_v ?_ _ (exec_gtr (.tmp 28) 1000 3 rfl (n1 : Int) rfl rfl _ HD1.out _) ?_; rfl) | (clear TX; refine wpl_v ?_ _ (exec_load68 (.tmp 6) rfl w.heap.size rfl _ _ _ _ _ HB6.out) ?_; rfl) | (go_at_call 61; go_must (refine (L1.out _ HX0.out).mono ?_; rintro e w2 ⟨rfl, hx2⟩; have HX2 := Lib.hid (HX0.out.trans hx2); have HC6 := Lib.hid (HB6.out.ext hx2); clear hx2; have TY : True := trivial)) | (clear TY; refine wpl_v ?_ _ (exec_load68 (.tmp 6) rfl w.heap.size rfl _ _ _ _ _ HC6.out) ?_; rfl) | (go_at_call 62; go_must (refine (RA.out _ HX2.out).mono ?_; rintro e w3 ⟨rfl, hx3⟩; rw [HR.out]; have HX3 := Lib.hid (HX2.out.trans hx3); have HD6 := Lib.hid (HC6.out.ext hx3); clear hx3; skip)) | (go_at_call 63; go_must (refine (known8_any _).mono ?_; rintro e w9 ⟨rfl, hx9⟩; have HX9 := Lib.hid hx9; clear hx9)) )
  go_ret
  exact ⟨rfl, HX3.out.trans HX9.out⟩
set_option maxRecDepth 100000 in
set_option maxHeartbeats 4000000 in
theorem scho_eq
    (kv : Value) (key : List UInt8) (x : Se) (a b ct : Nat) (w : World) (hK : Bs w kv key) (hx : SeR w x) (hx1 : x.sl.length ≤ 140737488355328) (hx2 : x.su.length ≤ 4398046511104)
    (hk : key.length ≤ 100) (hn : x.sl.length + 32 * x.su.length ≤ 1000) (hr : rightB x.blk x.sl x.su = true) (hab : a = b)
 : Calls Try.prog 24 #[kv, x.v, .int .u64 (a : Int), .int .u64 (b : Int), .int .u64 (ct : Int)] w fun e w' => e = .returned (.bool true) ∧ Ext w w' := by
  have hq : ((a : Int) == (b : Int)) = true := by rw [hab]; simp
  clear hab
  obtain ⟨Ak, ck, rfl, _, _, _, _⟩ := hK.is
  obtain ⟨n1, hn1⟩ : ∃ n, x.sl.length + 32 * x.su.length = n := ⟨_, rfl⟩
  have hn1b : n1 ≤ 1407374883553280 := by omega
  have L1 : Hid (∀ w', Ext w w' → Calls Try.prog 61 #[.agg (seRow x)] w' fun e w'' => e = .returned (.int .i64 (n1 : Int)) ∧ Ext w' w'') := Lib.hid (fun w' h => by have := slong_any x w' (hx.ext h) (by omega) (by omega); rw [hn1] at this; exact this)
  have RA : Hid (∀ w', Ext w w' → Calls Try.prog 62 #[.agg (seRow x)] w' fun e w'' => e = .returned (.bool (rightB x.blk x.sl x.su)) ∧ Ext w' w'') := Lib.hid (fun w' h => rright_any x w' (hx.ext h) hx1)
  have HNA := Lib.hid hn1
  have HK := Lib.hid hK
  have HX := Lib.hid hx
  have hb6 : At68 (w.alloc (.cells #[.int .u64 (x.num : Int), .int .i64 x.blk, x.sv, x.gv] 68)) w.heap.size (seRow x) := heap_alloc_last w _
  have hx0 : Ext w (w.alloc (.cells #[.int .u64 (x.num : Int), .int .i64 x.blk, x.sv, x.gv] 68)) := (Ext.refl w).alloc _
  have HB6 := Lib.hid hb6
  have HX0 := Lib.hid hx0
  clear hx hn1 hb6 hx0 hK
  have HR := Lib.hid hr
  clear hr
  have HDK : Hid (decide (100 < (key.length : Int)) = false) := Lib.hid (decide_eq_false (by omega))
  have HD1 : Hid (decide (1000 < (n1 : Int)) = false) := Lib.hid (decide_eq_false (by have := HNA.out; omega))
  have TX : True := trivial
  go_enter Try.func24, Try.ntmps24
  go_wp2_with (first | (refine wpl_v ?_ _ (exec_gtr (.tmp 24) 100 3 rfl (key.length : Int) rfl rfl _ HDK.out _) ?_; rfl) | (skip; refine wpl_v ?_ _ (exec_gtr (.tmp 28) 1000 3 rfl (n1 : Int) rfl rfl _ HD1.out _) ?_; rfl) | (clear TX; refine wpl_v ?_ _ (exec_load68 (.tmp 6) rfl w.heap.size rfl _ _ _ _ _ HB6.out) ?_; rfl) | (go_at_call 61; go_must (refine (L1.out _ HX0.out).mono ?_; rintro e w2 ⟨rfl, hx2⟩; have HX2 := Lib.hid (HX0.out.trans hx2); have HC6 := Lib.hid (HB6.out.ext hx2); clear hx2; have TY : True := trivial)) | (clear TY; refine wpl_v ?_ _ (exec_load68 (.tmp 6) rfl w.heap.size rfl _ _ _ _ _ HC6.out) ?_; rfl) | (go_at_call 62; go_must (refine (RA.out _ HX2.out).mono ?_; rintro e w3 ⟨rfl, hx3⟩; rw [HR.out]; have HX3 := Lib.hid (HX2.out.trans hx3); have HD6 := Lib.hid (HC6.out.ext hx3); clear hx3; skip)) | (go_at_call 63; go_must (refine (known8_any _).mono ?_; rintro e w9 ⟨rfl, hx9⟩; have HX9 := Lib.hid hx9; clear hx9)) )
  go_ret
  exact ⟨rfl, HX3.out.trans HX9.out⟩
end Go.Proofs.Ytapojpjmeadabaa
end

/- Slong, Slong2: several texts in one. -/
import Derived.Test.YtapojpjmeadabaaZCho3
section
/- sacristanlaw08.SealLong. -/
namespace Go.Proofs.Ytapojpjmeadabaa
open Go.RowKit
set_option linter.unusedVariables false
set_option linter.unusedSimpArgs false
attribute [local go_sem] lt_ext cell?_ext frozen?_ext shape?_ext

theorem encS_inj {key : List UInt8} {x y : Se} {w w' : World} (hx : SeR w x) (hy : SeR w' y) (hr : rightB x.blk x.sl x.su = true) (hr' : rightB y.blk y.sl y.su = true) :
    decide (encS key x.num x.blk.toNat x.sl x.su = encS key y.num y.blk.toNat y.sl y.su) = sameB x y := by
  obtain ⟨N, hN, _, _, _⟩ := right_bounds hr
  obtain ⟨N', hN', _, _, _⟩ := right_bounds hr'
  obtain ⟨num, blk, sl, su, sv, gv⟩ := x
  obtain ⟨num', blk', sl', su', sv', gv'⟩ := y
  simp only at hN hN' hr hr'
  subst hN; subst hN'
  obtain ⟨_, a1, a2, a3, a4⟩ := good_enc key num N hx.num sl su hx.su.all hr
  obtain ⟨_, b1, b2, b3, b4⟩ := good_enc key num' N' hy.num sl' su' hy.su.all hr'
  rw [Bool.eq_iff_iff]
  simp only [Int.toNat_natCast, decide_eq_true_eq, sameB, Bool.and_eq_true]
  constructor
  · intro h
    rw [h] at a1 a2 a3 a4
    exact ⟨⟨⟨a2.symm.trans b2, by rw [a1.symm.trans b1]⟩, a3.symm.trans b3⟩, a4.symm.trans b4⟩
  · rintro ⟨⟨⟨rfl, h2⟩, rfl⟩, rfl⟩
    obtain rfl : N = N' := by omega
    rfl
set_option maxRecDepth 100000 in
set_option maxHeartbeats 4000000 in
theorem slong_key
(kv : Value) (key : List UInt8) (x y : Se) (w : World) (hK : Bs w kv key) (hx : SeR w x) (hy : SeR w y) (hx1 : x.sl.length ≤ 140737488355328) (hx2 : x.su.length ≤ 4398046511104) (hy1 : y.sl.length ≤ 140737488355328) (hy2 : y.su.length ≤ 4398046511104)
    (hk : 100 < key.length) : Calls Try.prog 21 #[kv, x.v, y.v] w fun e w' => e = .returned (.bool true) ∧ Ext w w' := by
  obtain ⟨Ak, ck, rfl, _, _, _, _⟩ := hK.is
  obtain ⟨n1, hn1⟩ : ∃ n, x.sl.length + 32 * x.su.length = n := ⟨_, rfl⟩
  obtain ⟨n2, hn2⟩ : ∃ n, y.sl.length + 32 * y.su.length = n := ⟨_, rfl⟩
  have hn1b : n1 ≤ 1407374883553280 := by omega
  have hn2b : n2 ≤ 1407374883553280 := by omega
  have L1 : Hid (∀ w', Ext w w' → Calls Try.prog 61 #[.agg (seRow x)] w' fun e w'' => e = .returned (.int .i64 (n1 : Int)) ∧ Ext w' w'') := Lib.hid (fun w' h => by have := slong_any x w' (hx.ext h) (by omega) (by omega); rw [hn1] at this; exact this)
  have L2 : Hid (∀ w', Ext w w' → Calls Try.prog 61 #[.agg (seRow y)] w' fun e w'' => e = .returned (.int .i64 (n2 : Int)) ∧ Ext w' w'') := Lib.hid (fun w' h => by have := slong_any y w' (hy.ext h) (by omega) (by omega); rw [hn2] at this; exact this)
  have R1 : Hid (∀ w', Ext w w' → Calls Try.prog 62 #[.agg (seRow x)] w' fun e w'' => e = .returned (.bool (rightB x.blk x.sl x.su)) ∧ Ext w' w'') := Lib.hid (fun w' h => rright_any x w' (hx.ext h) hx1)
  have R2 : Hid (∀ w', Ext w w' → Calls Try.prog 62 #[.agg (seRow y)] w' fun e w'' => e = .returned (.bool (rightB y.blk y.sl y.su)) ∧ Ext w' w'') := Lib.hid (fun w' h => rright_any y w' (hy.ext h) hy1)
  have HNA := Lib.hid hn1
  have HNB := Lib.hid hn2
  have HK := Lib.hid hK
  have HX := Lib.hid hx
  have HY := Lib.hid hy
  clear hK hx hy hn1 hn2
  have hd1 : decide (100 < (key.length : Int)) = true := decide_eq_true (by omega)
  have hd2 := hd1
  have hb4 : At68 ((w.alloc (.cells #[.int .u64 (x.num : Int), .int .i64 x.blk, x.sv, x.gv] 68)).alloc (.cells #[.int .u64 (y.num : Int), .int .i64 y.blk, y.sv, y.gv] 68)) w.heap.size (seRow x) := At68.ext (heap_alloc_last w _) ((Ext.refl _).alloc _)
  have hb5 : At68 ((w.alloc (.cells #[.int .u64 (x.num : Int), .int .i64 x.blk, x.sv, x.gv] 68)).alloc (.cells #[.int .u64 (y.num : Int), .int .i64 y.blk, y.sv, y.gv] 68)) (w.heap.size + 1) (seRow y) := by
    have h := heap_alloc_last (w.alloc (.cells #[.int .u64 (x.num : Int), .int .i64 x.blk, x.sv, x.gv] 68)) (.cells #[.int .u64 (y.num : Int), .int .i64 y.blk, y.sv, y.gv] 68)
    rw [World.size_alloc] at h
    exact h
  have hx0 : Ext w ((w.alloc (.cells #[.int .u64 (x.num : Int), .int .i64 x.blk, x.sv, x.gv] 68)).alloc (.cells #[.int .u64 (y.num : Int), .int .i64 y.blk, y.sv, y.gv] 68)) := ((Ext.refl w).alloc _).alloc _
  go_enter Try.func21, Try.ntmps21
  go_wp2
  generalize (w.alloc (.cells #[.int .u64 (x.num : Int), .int .i64 x.blk, x.sv, x.gv] 68)).alloc (.cells #[.int .u64 (y.num : Int), .int .i64 y.blk, y.sv, y.gv] 68) = W1 at *
  have HB4 := Lib.hid hb4
  have HB5 := Lib.hid hb5
  have HX0 := Lib.hid hx0
  have hs1 := hb5.lt
  clear hb4 hb5 hx0
  refine wp_region_m (by kernel_rfl) (by kernel_rfl) ?_; try simp only [Act.put, List.setIfInBounds_toArray, List.set_cons_succ, List.set_cons_zero]
  repeat (first | (refine gskip rfl rfl rfl rfl ?_; simp only [Act.put, List.setIfInBounds_toArray, List.set_cons_succ, List.set_cons_zero]) | (refine gq rfl rfl rfl rfl (fun K hK => ?_); go_big_quiet_op; refine hK _ ?_; clear hK K; try simp only [hd1, hd2]))
  refine gm_end_at rfl [ ] rfl (fun xs z hk => ?_)
  clear hk
  simp only [fillM, Act.put, List.setIfInBounds_toArray, List.set_cons_succ, List.set_cons_zero]
  go_wp2_with (go_at_call 63; go_must (refine (known8_any _).mono ?_; rintro e w9 ⟨rfl, hx9⟩; have HX9 := Lib.hid hx9; clear hx9))
  go_ret
  exact ⟨rfl, (HX0.out.trans (ext_ext _ z)).trans HX9.out⟩
set_option maxRecDepth 100000 in
set_option maxHeartbeats 4000000 in
theorem slong_big
(kv : Value) (key : List UInt8) (x y : Se) (w : World) (hK : Bs w kv key) (hx : SeR w x) (hy : SeR w y) (hx1 : x.sl.length ≤ 140737488355328) (hx2 : x.su.length ≤ 4398046511104) (hy1 : y.sl.length ≤ 140737488355328) (hy2 : y.su.length ≤ 4398046511104)
    (hk : key.length ≤ 100) (hn : 1500 < (x.sl.length + 32 * x.su.length) + (y.sl.length + 32 * y.su.length)) : Calls Try.prog 21 #[kv, x.v, y.v] w fun e w' => e = .returned (.bool true) ∧ Ext w w' := by
  obtain ⟨Ak, ck, rfl, _, _, _, _⟩ := hK.is
  obtain ⟨n1, hn1⟩ : ∃ n, x.sl.length + 32 * x.su.length = n := ⟨_, rfl⟩
  obtain ⟨n2, hn2⟩ : ∃ n, y.sl.length + 32 * y.su.length = n := ⟨_, rfl⟩
  have hn1b : n1 ≤ 1407374883553280 := by omega
  have hn2b : n2 ≤ 1407374883553280 := by omega
  have L1 : Hid (∀ w', Ext w w' → Calls Try.prog 61 #[.agg (seRow x)] w' fun e w'' => e = .returned (.int .i64 (n1 : Int)) ∧ Ext w' w'') := Lib.hid (fun w' h => by have := slong_any x w' (hx.ext h) (by omega) (by omega); rw [hn1] at this; exact this)
  have L2 : Hid (∀ w', Ext w w' → Calls Try.prog 61 #[.agg (seRow y)] w' fun e w'' => e = .returned (.int .i64 (n2 : Int)) ∧ Ext w' w'') := Lib.hid (fun w' h => by have := slong_any y w' (hy.ext h) (by omega) (by omega); rw [hn2] at this; exact this)
  have R1 : Hid (∀ w', Ext w w' → Calls Try.prog 62 #[.agg (seRow x)] w' fun e w'' => e = .returned (.bool (rightB x.blk x.sl x.su)) ∧ Ext w' w'') := Lib.hid (fun w' h => rright_any x w' (hx.ext h) hx1)
  have R2 : Hid (∀ w', Ext w w' → Calls Try.prog 62 #[.agg (seRow y)] w' fun e w'' => e = .returned (.bool (rightB y.blk y.sl y.su)) ∧ Ext w' w'') := Lib.hid (fun w' h => rright_any y w' (hy.ext h) hy1)
  have HNA := Lib.hid hn1
  have HNB := Lib.hid hn2
  have HK := Lib.hid hK
  have HX := Lib.hid hx
  have HY := Lib.hid hy
  clear hK hx hy hn1 hn2
  have hd1 : decide (100 < (key.length : Int)) = false := decide_eq_false (by omega)
  have hd2 : decide (1500 < (n1 : Int) + (n2 : Int)) = true := decide_eq_true (by have := HNA.out; have := HNB.out; omega)
  have hb4 : At68 ((w.alloc (.cells #[.int .u64 (x.num : Int), .int .i64 x.blk, x.sv, x.gv] 68)).alloc (.cells #[.int .u64 (y.num : Int), .int .i64 y.blk, y.sv, y.gv] 68)) w.heap.size (seRow x) := At68.ext (heap_alloc_last w _) ((Ext.refl _).alloc _)
  have hb5 : At68 ((w.alloc (.cells #[.int .u64 (x.num : Int), .int .i64 x.blk, x.sv, x.gv] 68)).alloc (.cells #[.int .u64 (y.num : Int), .int .i64 y.blk, y.sv, y.gv] 68)) (w.heap.size + 1) (seRow y) := by
    have h := heap_alloc_last (w.alloc (.cells #[.int .u64 (x.num : Int), .int .i64 x.blk, x.sv, x.gv] 68)) (.cells #[.int .u64 (y.num : Int), .int .i64 y.blk, y.sv, y.gv] 68)
    rw [World.size_alloc] at h
    exact h
  have hx0 : Ext w ((w.alloc (.cells #[.int .u64 (x.num : Int), .int .i64 x.blk, x.sv, x.gv] 68)).alloc (.cells #[.int .u64 (y.num : Int), .int .i64 y.blk, y.sv, y.gv] 68)) := ((Ext.refl w).alloc _).alloc _
  go_enter Try.func21, Try.ntmps21
  go_wp2
  generalize (w.alloc (.cells #[.int .u64 (x.num : Int), .int .i64 x.blk, x.sv, x.gv] 68)).alloc (.cells #[.int .u64 (y.num : Int), .int .i64 y.blk, y.sv, y.gv] 68) = W1 at *
  have HB4 := Lib.hid hb4
  have HB5 := Lib.hid hb5
  have HX0 := Lib.hid hx0
  have hs1 := hb5.lt
  clear hb4 hb5 hx0
  refine wp_region_m (by kernel_rfl) (by kernel_rfl) ?_; try simp only [Act.put, List.setIfInBounds_toArray, List.set_cons_succ, List.set_cons_zero]
  repeat (first | (refine gskip rfl rfl rfl rfl ?_; simp only [Act.put, List.setIfInBounds_toArray, List.set_cons_succ, List.set_cons_zero]) | (refine gq rfl rfl rfl rfl (fun K hK => ?_); go_big_quiet_op; refine hK _ ?_; clear hK K; try simp only [hd1]))
  refine gx rfl rfl rfl rfl (.agg (seRow x)) (fun z => exec_load68 (.tmp 4) rfl (w.heap.size) rfl _ _ _ _ _ ((HB4.out).ext (ext_ext _ z))) ?_
  simp only [Act.put, List.setIfInBounds_toArray, List.set_cons_succ, List.set_cons_zero]
  refine gc rfl rfl rfl rfl 61 #[.agg (seRow x)] (fun _ => by go_simp) (.int .i64 (n1 : Int)) (fun z => L1.out _ (HX0.out.trans (ext_ext _ z))) ?_
  simp only [Act.put, List.setIfInBounds_toArray, List.set_cons_succ, List.set_cons_zero]
  refine gx rfl rfl rfl rfl (.agg (seRow y)) (fun z => exec_load68 (.tmp 5) rfl ((w.heap.size + 1)) rfl _ _ _ _ _ ((HB5.out).ext (ext_ext _ z))) ?_
  simp only [Act.put, List.setIfInBounds_toArray, List.set_cons_succ, List.set_cons_zero]
  refine gc rfl rfl rfl rfl 61 #[.agg (seRow y)] (fun _ => by go_simp) (.int .i64 (n2 : Int)) (fun z => L2.out _ (HX0.out.trans (ext_ext _ z))) ?_
  simp only [Act.put, List.setIfInBounds_toArray, List.set_cons_succ, List.set_cons_zero]
  repeat (first | (refine gskip rfl rfl rfl rfl ?_; simp only [Act.put, List.setIfInBounds_toArray, List.set_cons_succ, List.set_cons_zero]) | (refine gq rfl rfl rfl rfl (fun K hK => ?_); go_big_quiet_op; refine hK _ ?_; clear hK K; try simp only [hd2]))
  repeat (first | (refine gskip rfl rfl rfl rfl ?_; simp only [Act.put, List.setIfInBounds_toArray, List.set_cons_succ, List.set_cons_zero]) | (refine gq rfl rfl rfl rfl (fun K hK => ?_); go_big_quiet_op; refine hK _ ?_; clear hK K; try simp only [hd1, hd2]))
  refine gm_end_at rfl [ ] rfl (fun xs z hk => ?_)
  clear hk
  simp only [fillM, Act.put, List.setIfInBounds_toArray, List.set_cons_succ, List.set_cons_zero]
  go_wp2_with (go_at_call 63; go_must (refine (known8_any _).mono ?_; rintro e w9 ⟨rfl, hx9⟩; have HX9 := Lib.hid hx9; clear hx9))
  go_ret
  exact ⟨rfl, (HX0.out.trans (ext_ext _ z)).trans HX9.out⟩
set_option maxRecDepth 100000 in
set_option maxHeartbeats 4000000 in
theorem slong_x
(kv : Value) (key : List UInt8) (x y : Se) (w : World) (hK : Bs w kv key) (hx : SeR w x) (hy : SeR w y) (hx1 : x.sl.length ≤ 140737488355328) (hx2 : x.su.length ≤ 4398046511104) (hy1 : y.sl.length ≤ 140737488355328) (hy2 : y.su.length ≤ 4398046511104)
    (hk : key.length ≤ 100) (hn : (x.sl.length + 32 * x.su.length) + (y.sl.length + 32 * y.su.length) ≤ 1500) (hr : rightB x.blk x.sl x.su = false) : Calls Try.prog 21 #[kv, x.v, y.v] w fun e w' => e = .returned (.bool true) ∧ Ext w w' := by
  obtain ⟨Ak, ck, rfl, _, _, _, _⟩ := hK.is
  obtain ⟨n1, hn1⟩ : ∃ n, x.sl.length + 32 * x.su.length = n := ⟨_, rfl⟩
  obtain ⟨n2, hn2⟩ : ∃ n, y.sl.length + 32 * y.su.length = n := ⟨_, rfl⟩
  have hn1b : n1 ≤ 1407374883553280 := by omega
  have hn2b : n2 ≤ 1407374883553280 := by omega
  have L1 : Hid (∀ w', Ext w w' → Calls Try.prog 61 #[.agg (seRow x)] w' fun e w'' => e = .returned (.int .i64 (n1 : Int)) ∧ Ext w' w'') := Lib.hid (fun w' h => by have := slong_any x w' (hx.ext h) (by omega) (by omega); rw [hn1] at this; exact this)
  have L2 : Hid (∀ w', Ext w w' → Calls Try.prog 61 #[.agg (seRow y)] w' fun e w'' => e = .returned (.int .i64 (n2 : Int)) ∧ Ext w' w'') := Lib.hid (fun w' h => by have := slong_any y w' (hy.ext h) (by omega) (by omega); rw [hn2] at this; exact this)
  have R1 : Hid (∀ w', Ext w w' → Calls Try.prog 62 #[.agg (seRow x)] w' fun e w'' => e = .returned (.bool (rightB x.blk x.sl x.su)) ∧ Ext w' w'') := Lib.hid (fun w' h => rright_any x w' (hx.ext h) hx1)
  have R2 : Hid (∀ w', Ext w w' → Calls Try.prog 62 #[.agg (seRow y)] w' fun e w'' => e = .returned (.bool (rightB y.blk y.sl y.su)) ∧ Ext w' w'') := Lib.hid (fun w' h => rright_any y w' (hy.ext h) hy1)
  have HNA := Lib.hid hn1
  have HNB := Lib.hid hn2
  have HK := Lib.hid hK
  have HX := Lib.hid hx
  have HY := Lib.hid hy
  clear hK hx hy hn1 hn2
  have hd1 : decide (100 < (key.length : Int)) = false := decide_eq_false (by omega)
  have hd2 : decide (1500 < (n1 : Int) + (n2 : Int)) = false := decide_eq_false (by have := HNA.out; have := HNB.out; omega)
  have HRX := Lib.hid hr
  clear hr
  have hb4 : At68 ((w.alloc (.cells #[.int .u64 (x.num : Int), .int .i64 x.blk, x.sv, x.gv] 68)).alloc (.cells #[.int .u64 (y.num : Int), .int .i64 y.blk, y.sv, y.gv] 68)) w.heap.size (seRow x) := At68.ext (heap_alloc_last w _) ((Ext.refl _).alloc _)
  have hb5 : At68 ((w.alloc (.cells #[.int .u64 (x.num : Int), .int .i64 x.blk, x.sv, x.gv] 68)).alloc (.cells #[.int .u64 (y.num : Int), .int .i64 y.blk, y.sv, y.gv] 68)) (w.heap.size + 1) (seRow y) := by
    have h := heap_alloc_last (w.alloc (.cells #[.int .u64 (x.num : Int), .int .i64 x.blk, x.sv, x.gv] 68)) (.cells #[.int .u64 (y.num : Int), .int .i64 y.blk, y.sv, y.gv] 68)
    rw [World.size_alloc] at h
    exact h
  have hx0 : Ext w ((w.alloc (.cells #[.int .u64 (x.num : Int), .int .i64 x.blk, x.sv, x.gv] 68)).alloc (.cells #[.int .u64 (y.num : Int), .int .i64 y.blk, y.sv, y.gv] 68)) := ((Ext.refl w).alloc _).alloc _
  go_enter Try.func21, Try.ntmps21
  go_wp2
  generalize (w.alloc (.cells #[.int .u64 (x.num : Int), .int .i64 x.blk, x.sv, x.gv] 68)).alloc (.cells #[.int .u64 (y.num : Int), .int .i64 y.blk, y.sv, y.gv] 68) = W1 at *
  have HB4 := Lib.hid hb4
  have HB5 := Lib.hid hb5
  have HX0 := Lib.hid hx0
  have hs1 := hb5.lt
  clear hb4 hb5 hx0
  refine wp_region_m (by kernel_rfl) (by kernel_rfl) ?_; try simp only [Act.put, List.setIfInBounds_toArray, List.set_cons_succ, List.set_cons_zero]
  repeat (first | (refine gskip rfl rfl rfl rfl ?_; simp only [Act.put, List.setIfInBounds_toArray, List.set_cons_succ, List.set_cons_zero]) | (refine gq rfl rfl rfl rfl (fun K hK => ?_); go_big_quiet_op; refine hK _ ?_; clear hK K; try simp only [hd1]))
  refine gx rfl rfl rfl rfl (.agg (seRow x)) (fun z => exec_load68 (.tmp 4) rfl (w.heap.size) rfl _ _ _ _ _ ((HB4.out).ext (ext_ext _ z))) ?_
  simp only [Act.put, List.setIfInBounds_toArray, List.set_cons_succ, List.set_cons_zero]
  refine gc rfl rfl rfl rfl 61 #[.agg (seRow x)] (fun _ => by go_simp) (.int .i64 (n1 : Int)) (fun z => L1.out _ (HX0.out.trans (ext_ext _ z))) ?_
  simp only [Act.put, List.setIfInBounds_toArray, List.set_cons_succ, List.set_cons_zero]
  refine gx rfl rfl rfl rfl (.agg (seRow y)) (fun z => exec_load68 (.tmp 5) rfl ((w.heap.size + 1)) rfl _ _ _ _ _ ((HB5.out).ext (ext_ext _ z))) ?_
  simp only [Act.put, List.setIfInBounds_toArray, List.set_cons_succ, List.set_cons_zero]
  refine gc rfl rfl rfl rfl 61 #[.agg (seRow y)] (fun _ => by go_simp) (.int .i64 (n2 : Int)) (fun z => L2.out _ (HX0.out.trans (ext_ext _ z))) ?_
  simp only [Act.put, List.setIfInBounds_toArray, List.set_cons_succ, List.set_cons_zero]
  repeat (first | (refine gskip rfl rfl rfl rfl ?_; simp only [Act.put, List.setIfInBounds_toArray, List.set_cons_succ, List.set_cons_zero]) | (refine gq rfl rfl rfl rfl (fun K hK => ?_); go_big_quiet_op; refine hK _ ?_; clear hK K; try simp only [hd2]))
  refine gx rfl rfl rfl rfl (.agg (seRow x)) (fun z => exec_load68 (.tmp 4) rfl (w.heap.size) rfl _ _ _ _ _ ((HB4.out).ext (ext_ext _ z))) ?_
  simp only [Act.put, List.setIfInBounds_toArray, List.set_cons_succ, List.set_cons_zero]
  refine gc rfl rfl rfl rfl 62 #[.agg (seRow x)] (fun _ => by go_simp) (.bool false) (fun z => by have h := R1.out _ (HX0.out.trans (ext_ext _ z)); rw [HRX.out] at h; exact h) ?_
  simp only [Act.put, List.setIfInBounds_toArray, List.set_cons_succ, List.set_cons_zero]
  repeat (first | (refine gskip rfl rfl rfl rfl ?_; simp only [Act.put, List.setIfInBounds_toArray, List.set_cons_succ, List.set_cons_zero]) | (refine gq rfl rfl rfl rfl (fun K hK => ?_); go_big_quiet_op; refine hK _ ?_; clear hK K; try simp only [hd1, hd2]))
  refine gm_end_at rfl [ ] rfl (fun xs z hk => ?_)
  clear hk
  simp only [fillM, Act.put, List.setIfInBounds_toArray, List.set_cons_succ, List.set_cons_zero]
  go_wp2_with (go_at_call 63; go_must (refine (known8_any _).mono ?_; rintro e w9 ⟨rfl, hx9⟩; have HX9 := Lib.hid hx9; clear hx9))
  go_ret
  exact ⟨rfl, (HX0.out.trans (ext_ext _ z)).trans HX9.out⟩
set_option maxRecDepth 100000 in
set_option maxHeartbeats 4000000 in
theorem slong_y
(kv : Value) (key : List UInt8) (x y : Se) (w : World) (hK : Bs w kv key) (hx : SeR w x) (hy : SeR w y) (hx1 : x.sl.length ≤ 140737488355328) (hx2 : x.su.length ≤ 4398046511104) (hy1 : y.sl.length ≤ 140737488355328) (hy2 : y.su.length ≤ 4398046511104)
    (hk : key.length ≤ 100) (hn : (x.sl.length + 32 * x.su.length) + (y.sl.length + 32 * y.su.length) ≤ 1500) (hr : rightB x.blk x.sl x.su = true) (hr' : rightB y.blk y.sl y.su = false) : Calls Try.prog 21 #[kv, x.v, y.v] w fun e w' => e = .returned (.bool true) ∧ Ext w w' := by
  obtain ⟨Ak, ck, rfl, _, _, _, _⟩ := hK.is
  obtain ⟨n1, hn1⟩ : ∃ n, x.sl.length + 32 * x.su.length = n := ⟨_, rfl⟩
  obtain ⟨n2, hn2⟩ : ∃ n, y.sl.length + 32 * y.su.length = n := ⟨_, rfl⟩
  have hn1b : n1 ≤ 1407374883553280 := by omega
  have hn2b : n2 ≤ 1407374883553280 := by omega
  have L1 : Hid (∀ w', Ext w w' → Calls Try.prog 61 #[.agg (seRow x)] w' fun e w'' => e = .returned (.int .i64 (n1 : Int)) ∧ Ext w' w'') := Lib.hid (fun w' h => by have := slong_any x w' (hx.ext h) (by omega) (by omega); rw [hn1] at this; exact this)
  have L2 : Hid (∀ w', Ext w w' → Calls Try.prog 61 #[.agg (seRow y)] w' fun e w'' => e = .returned (.int .i64 (n2 : Int)) ∧ Ext w' w'') := Lib.hid (fun w' h => by have := slong_any y w' (hy.ext h) (by omega) (by omega); rw [hn2] at this; exact this)
  have R1 : Hid (∀ w', Ext w w' → Calls Try.prog 62 #[.agg (seRow x)] w' fun e w'' => e = .returned (.bool (rightB x.blk x.sl x.su)) ∧ Ext w' w'') := Lib.hid (fun w' h => rright_any x w' (hx.ext h) hx1)
  have R2 : Hid (∀ w', Ext w w' → Calls Try.prog 62 #[.agg (seRow y)] w' fun e w'' => e = .returned (.bool (rightB y.blk y.sl y.su)) ∧ Ext w' w'') := Lib.hid (fun w' h => rright_any y w' (hy.ext h) hy1)
  have HNA := Lib.hid hn1
  have HNB := Lib.hid hn2
  have HK := Lib.hid hK
  have HX := Lib.hid hx
  have HY := Lib.hid hy
  clear hK hx hy hn1 hn2
  have hd1 : decide (100 < (key.length : Int)) = false := decide_eq_false (by omega)
  have hd2 : decide (1500 < (n1 : Int) + (n2 : Int)) = false := decide_eq_false (by have := HNA.out; have := HNB.out; omega)
  have HRX := Lib.hid hr
  have HRY := Lib.hid hr'
  clear hr hr'
  have hb4 : At68 ((w.alloc (.cells #[.int .u64 (x.num : Int), .int .i64 x.blk, x.sv, x.gv] 68)).alloc (.cells #[.int .u64 (y.num : Int), .int .i64 y.blk, y.sv, y.gv] 68)) w.heap.size (seRow x) := At68.ext (heap_alloc_last w _) ((Ext.refl _).alloc _)
  have hb5 : At68 ((w.alloc (.cells #[.int .u64 (x.num : Int), .int .i64 x.blk, x.sv, x.gv] 68)).alloc (.cells #[.int .u64 (y.num : Int), .int .i64 y.blk, y.sv, y.gv] 68)) (w.heap.size + 1) (seRow y) := by
    have h := heap_alloc_last (w.alloc (.cells #[.int .u64 (x.num : Int), .int .i64 x.blk, x.sv, x.gv] 68)) (.cells #[.int .u64 (y.num : Int), .int .i64 y.blk, y.sv, y.gv] 68)
    rw [World.size_alloc] at h
    exact h
  have hx0 : Ext w ((w.alloc (.cells #[.int .u64 (x.num : Int), .int .i64 x.blk, x.sv, x.gv] 68)).alloc (.cells #[.int .u64 (y.num : Int), .int .i64 y.blk, y.sv, y.gv] 68)) := ((Ext.refl w).alloc _).alloc _
  go_enter Try.func21, Try.ntmps21
  go_wp2
  generalize (w.alloc (.cells #[.int .u64 (x.num : Int), .int .i64 x.blk, x.sv, x.gv] 68)).alloc (.cells #[.int .u64 (y.num : Int), .int .i64 y.blk, y.sv, y.gv] 68) = W1 at *
  have HB4 := Lib.hid hb4
  have HB5 := Lib.hid hb5
  have HX0 := Lib.hid hx0
  have hs1 := hb5.lt
  clear hb4 hb5 hx0
  refine wp_region_m (by kernel_rfl) (by kernel_rfl) ?_; try simp only [Act.put, List.setIfInBounds_toArray, List.set_cons_succ, List.set_cons_zero]
  repeat (first | (refine gskip rfl rfl rfl rfl ?_; simp only [Act.put, List.setIfInBounds_toArray, List.set_cons_succ, List.set_cons_zero]) | (refine gq rfl rfl rfl rfl (fun K hK => ?_); go_big_quiet_op; refine hK _ ?_; clear hK K; try simp only [hd1]))
  refine gx rfl rfl rfl rfl (.agg (seRow x)) (fun z => exec_load68 (.tmp 4) rfl (w.heap.size) rfl _ _ _ _ _ ((HB4.out).ext (ext_ext _ z))) ?_
  simp only [Act.put, List.setIfInBounds_toArray, List.set_cons_succ, List.set_cons_zero]
  refine gc rfl rfl rfl rfl 61 #[.agg (seRow x)] (fun _ => by go_simp) (.int .i64 (n1 : Int)) (fun z => L1.out _ (HX0.out.trans (ext_ext _ z))) ?_
  simp only [Act.put, List.setIfInBounds_toArray, List.set_cons_succ, List.set_cons_zero]
  refine gx rfl rfl rfl rfl (.agg (seRow y)) (fun z => exec_load68 (.tmp 5) rfl ((w.heap.size + 1)) rfl _ _ _ _ _ ((HB5.out).ext (ext_ext _ z))) ?_
  simp only [Act.put, List.setIfInBounds_toArray, List.set_cons_succ, List.set_cons_zero]
  refine gc rfl rfl rfl rfl 61 #[.agg (seRow y)] (fun _ => by go_simp) (.int .i64 (n2 : Int)) (fun z => L2.out _ (HX0.out.trans (ext_ext _ z))) ?_
  simp only [Act.put, List.setIfInBounds_toArray, List.set_cons_succ, List.set_cons_zero]
  repeat (first | (refine gskip rfl rfl rfl rfl ?_; simp only [Act.put, List.setIfInBounds_toArray, List.set_cons_succ, List.set_cons_zero]) | (refine gq rfl rfl rfl rfl (fun K hK => ?_); go_big_quiet_op; refine hK _ ?_; clear hK K; try simp only [hd2]))
  refine gx rfl rfl rfl rfl (.agg (seRow x)) (fun z => exec_load68 (.tmp 4) rfl (w.heap.size) rfl _ _ _ _ _ ((HB4.out).ext (ext_ext _ z))) ?_
  simp only [Act.put, List.setIfInBounds_toArray, List.set_cons_succ, List.set_cons_zero]
  refine gc rfl rfl rfl rfl 62 #[.agg (seRow x)] (fun _ => by go_simp) (.bool true) (fun z => by have h := R1.out _ (HX0.out.trans (ext_ext _ z)); rw [HRX.out] at h; exact h) ?_
  simp only [Act.put, List.setIfInBounds_toArray, List.set_cons_succ, List.set_cons_zero]
  repeat (first | (refine gskip rfl rfl rfl rfl ?_; simp only [Act.put, List.setIfInBounds_toArray, List.set_cons_succ, List.set_cons_zero]) | (refine gq rfl rfl rfl rfl (fun K hK => ?_); go_big_quiet_op; refine hK _ ?_; clear hK K; try simp only [hd1]))
  refine gx rfl rfl rfl rfl (.agg (seRow y)) (fun z => exec_load68 (.tmp 5) rfl ((w.heap.size + 1)) rfl _ _ _ _ _ ((HB5.out).ext (ext_ext _ z))) ?_
  simp only [Act.put, List.setIfInBounds_toArray, List.set_cons_succ, List.set_cons_zero]
  refine gc rfl rfl rfl rfl 62 #[.agg (seRow y)] (fun _ => by go_simp) (.bool false) (fun z => by have h := R2.out _ (HX0.out.trans (ext_ext _ z)); rw [HRY.out] at h; exact h) ?_
  simp only [Act.put, List.setIfInBounds_toArray, List.set_cons_succ, List.set_cons_zero]
  repeat (first | (refine gskip rfl rfl rfl rfl ?_; simp only [Act.put, List.setIfInBounds_toArray, List.set_cons_succ, List.set_cons_zero]) | (refine gq rfl rfl rfl rfl (fun K hK => ?_); go_big_quiet_op; refine hK _ ?_; clear hK K; try simp only [hd1, hd2]))
  refine gm_end_at rfl [ ] rfl (fun xs z hk => ?_)
  clear hk
  simp only [fillM, Act.put, List.setIfInBounds_toArray, List.set_cons_succ, List.set_cons_zero]
  go_wp2_with (go_at_call 63; go_must (refine (known8_any _).mono ?_; rintro e w9 ⟨rfl, hx9⟩; have HX9 := Lib.hid hx9; clear hx9))
  go_ret
  exact ⟨rfl, (HX0.out.trans (ext_ext _ z)).trans HX9.out⟩
end Go.Proofs.Ytapojpjmeadabaa
end

section
/- sacristanlaw08.SealLong. -/
namespace Go.Proofs.Ytapojpjmeadabaa
open Go.RowKit
set_option linter.unusedVariables false
set_option linter.unusedSimpArgs false
attribute [local go_sem] lt_ext cell?_ext frozen?_ext shape?_ext

theorem encS_take4 (key : List UInt8) (num N : Nat) (sl : List UInt8) (su : List (List UInt8)) : (encS key num N sl su).take 4 = magicL := by
  unfold encS bodyS
  simp [magicL]
set_option maxRecDepth 100000 in
set_option maxHeartbeats 8000000 in
theorem slong_good (num N : Nat) (sl : List UInt8) (su : List (List UInt8)) (sv gv : Value) (kv : Value) (key : List UInt8) (x y : Se) (hxe : x = ⟨num, N, sl, su, sv, gv⟩) (w : World) (hK : Bs w kv key) (hx : SeR w x) (hy : SeR w y) (hx1 : x.sl.length ≤ 140737488355328) (hx2 : x.su.length ≤ 4398046511104) (hy1 : y.sl.length ≤ 140737488355328) (hy2 : y.su.length ≤ 4398046511104)
    (hk : key.length ≤ 100) (hn : (x.sl.length + 32 * x.su.length) + (y.sl.length + 32 * y.su.length) ≤ 1500) (hr : rightB x.blk x.sl x.su = true) (hr' : rightB y.blk y.sl y.su = true) : Calls Try.prog 21 #[kv, x.v, y.v] w fun e w' => e = .returned (.bool true) ∧ Ext w w' := by
  have hq := encS_inj (key := key) hx hy hr hr'
  obtain ⟨LA, hLA⟩ : ∃ L, encS key x.num x.blk.toNat x.sl x.su = L := ⟨_, rfl⟩
  obtain ⟨LB, hLB⟩ : ∃ L, encS key y.num y.blk.toNat y.sl y.su = L := ⟨_, rfl⟩
  rw [hLA, hLB] at hq
  obtain ⟨q, hqq⟩ : ∃ q, sameB x y = q := ⟨_, rfl⟩
  rw [hqq] at hq
  obtain ⟨N', hN', hNb, hsl, hsu⟩ := right_bounds hr
  have hxb : x.blk = (N : Int) := by rw [hxe]
  obtain rfl : N = N' := by rw [hxb] at hN'; omega
  obtain ⟨wd, hwd⟩ : ∃ wd, (N + 7) / 8 = wd := ⟨_, rfl⟩
  obtain ⟨p, hp⟩ : ∃ p, (N + 15) / 16 = p := ⟨_, rfl⟩
  have hlen : LA.length = 48 + wd + 32 * p := by
    rw [← hLA, hxb, Int.toNat_natCast, encS_length key _ N _ _ hsl hsu hx.su.all, hwd, hp]
  have h4 : LA.take 4 = magicL := by rw [← hLA]; exact encS_take4 _ _ _ _ _
  have hpb : p ≤ 300 := by omega
  have hwb : wd ≤ 600 := by omega
  have hl81 : 4 ≤ LA.length := by omega
  have E1 : Hid (∀ w', Ext w w' → Calls Try.prog 64 #[kv, .agg (seRow x)] w' fun e w'' => ∃ v, e = .returned (.tuple #[v, .int .i64 0]) ∧ NewB w' v LA w'') := Lib.hid (fun w' h => by have := encode_any kv x key w' (Rd.ext hK h) (by omega) (hx.ext h) hr; rw [hLA] at this; exact this)
  have E2 : Hid (∀ w', Ext w w' → Calls Try.prog 64 #[kv, .agg (seRow y)] w' fun e w'' => ∃ v, e = .returned (.tuple #[v, .int .i64 0]) ∧ NewB w' v LB w'') := Lib.hid (fun w' h => by have := encode_any kv y key w' (Rd.ext hK h) (by omega) (hy.ext h) hr'; rw [hLB] at this; exact this)
  have S1 : Hid (∀ w', Ext w w' → Calls Try.prog 66 #[.agg (seRow x), .agg (seRow y)] w' fun e w'' => e = .returned (.bool q) ∧ Ext w' w'') := Lib.hid (fun w' h => by have := rsame_any x y w' (hx.ext h) (hy.ext h) (by omega); rw [hqq] at this; exact this)
  have hwi : ((N : Int) + 7) / 8 = (wd : Int) := by omega
  have hlq : ((LA.length : Int) != 48 + (wd : Int) + 32 * (p : Int)) = false := by
    have : (LA.length : Int) = 48 + (wd : Int) + 32 * (p : Int) := by omega
    simpa using this
  have S49 : Hid (∀ va vb w', Bs w' va LA → Bs w' vb LB → Calls Try.prog 49 #[va, vb] w' fun e w'' => e = .returned (.bool q) ∧ Ext w' w'') := Lib.hid (fun va vb w' ha hb => (same_any va vb LA LB w' ha hb).mono fun e w'' ⟨h1, h2⟩ => by rw [hq] at h1; exact ⟨h1, h2 ▸ Ext.refl _⟩)
  have HLEN := Lib.hid hlen
  have HPP := Lib.hid hp
  have HQ := Lib.hid hq
  have H4 := Lib.hid h4
  have HRX := Lib.hid hr
  have HRY := Lib.hid hr'
  clear hq hLA hLB hqq hN' hsl hsu hwd hp hlen h4 hr hr'
  obtain ⟨Ak, ck, rfl, _, _, _, _⟩ := hK.is
  obtain ⟨n1, hn1⟩ : ∃ n, x.sl.length + 32 * x.su.length = n := ⟨_, rfl⟩
  obtain ⟨n2, hn2⟩ : ∃ n, y.sl.length + 32 * y.su.length = n := ⟨_, rfl⟩
  have hn1b : n1 ≤ 1407374883553280 := by omega
  have hn2b : n2 ≤ 1407374883553280 := by omega
  have L1 : Hid (∀ w', Ext w w' → Calls Try.prog 61 #[.agg (seRow x)] w' fun e w'' => e = .returned (.int .i64 (n1 : Int)) ∧ Ext w' w'') := Lib.hid (fun w' h => by have := slong_any x w' (hx.ext h) (by omega) (by omega); rw [hn1] at this; exact this)
  have L2 : Hid (∀ w', Ext w w' → Calls Try.prog 61 #[.agg (seRow y)] w' fun e w'' => e = .returned (.int .i64 (n2 : Int)) ∧ Ext w' w'') := Lib.hid (fun w' h => by have := slong_any y w' (hy.ext h) (by omega) (by omega); rw [hn2] at this; exact this)
  have R1 : Hid (∀ w', Ext w w' → Calls Try.prog 62 #[.agg (seRow x)] w' fun e w'' => e = .returned (.bool (rightB x.blk x.sl x.su)) ∧ Ext w' w'') := Lib.hid (fun w' h => rright_any x w' (hx.ext h) hx1)
  have R2 : Hid (∀ w', Ext w w' → Calls Try.prog 62 #[.agg (seRow y)] w' fun e w'' => e = .returned (.bool (rightB y.blk y.sl y.su)) ∧ Ext w' w'') := Lib.hid (fun w' h => rright_any y w' (hy.ext h) hy1)
  have HNA := Lib.hid hn1
  have HNB := Lib.hid hn2
  have HK := Lib.hid hK
  have HX := Lib.hid hx
  have HY := Lib.hid hy
  clear hK hx hy hn1 hn2
  have HXB := Lib.hid hxb
  have HXE := Lib.hid hxe
  clear hxb hxe
  have hd1 : decide (100 < (key.length : Int)) = false := decide_eq_false (by omega)
  have hd2 : decide (1500 < (n1 : Int) + (n2 : Int)) = false := decide_eq_false (by have := HNA.out; have := HNB.out; omega)
  have hb4 : At68 ((w.alloc (.cells #[.int .u64 (x.num : Int), .int .i64 x.blk, x.sv, x.gv] 68)).alloc (.cells #[.int .u64 (y.num : Int), .int .i64 y.blk, y.sv, y.gv] 68)) w.heap.size (seRow x) := At68.ext (heap_alloc_last w _) ((Ext.refl _).alloc _)
  have hb5 : At68 ((w.alloc (.cells #[.int .u64 (x.num : Int), .int .i64 x.blk, x.sv, x.gv] 68)).alloc (.cells #[.int .u64 (y.num : Int), .int .i64 y.blk, y.sv, y.gv] 68)) (w.heap.size + 1) (seRow y) := by
    have h := heap_alloc_last (w.alloc (.cells #[.int .u64 (x.num : Int), .int .i64 x.blk, x.sv, x.gv] 68)) (.cells #[.int .u64 (y.num : Int), .int .i64 y.blk, y.sv, y.gv] 68)
    rw [World.size_alloc] at h
    exact h
  have hx0 : Ext w ((w.alloc (.cells #[.int .u64 (x.num : Int), .int .i64 x.blk, x.sv, x.gv] 68)).alloc (.cells #[.int .u64 (y.num : Int), .int .i64 y.blk, y.sv, y.gv] 68)) := ((Ext.refl w).alloc _).alloc _
  go_enter Try.func21, Try.ntmps21
  go_wp2
  generalize (w.alloc (.cells #[.int .u64 (x.num : Int), .int .i64 x.blk, x.sv, x.gv] 68)).alloc (.cells #[.int .u64 (y.num : Int), .int .i64 y.blk, y.sv, y.gv] 68) = W1 at *
  have HB4 := Lib.hid hb4
  have HB5 := Lib.hid hb5
  have HX0 := Lib.hid hx0
  have hs1 := hb5.lt
  clear hb4 hb5 hx0
  refine wp_region_m (by kernel_rfl) (by kernel_rfl) ?_; try simp only [Act.put, List.setIfInBounds_toArray, List.set_cons_succ, List.set_cons_zero]
  repeat (first | (refine gskip rfl rfl rfl rfl ?_; simp only [Act.put, List.setIfInBounds_toArray, List.set_cons_succ, List.set_cons_zero]) | (refine gq rfl rfl rfl rfl (fun K hK => ?_); go_big_quiet_op; refine hK _ ?_; clear hK K; try simp only [hd1]))
  refine gx rfl rfl rfl rfl (.agg (seRow x)) (fun z => exec_load68 (.tmp 4) rfl (w.heap.size) rfl _ _ _ _ _ ((HB4.out).ext (ext_ext _ z))) ?_
  simp only [Act.put, List.setIfInBounds_toArray, List.set_cons_succ, List.set_cons_zero]
  refine gc rfl rfl rfl rfl 61 #[.agg (seRow x)] (fun _ => by go_simp) (.int .i64 (n1 : Int)) (fun z => L1.out _ (HX0.out.trans (ext_ext _ z))) ?_
  simp only [Act.put, List.setIfInBounds_toArray, List.set_cons_succ, List.set_cons_zero]
  refine gx rfl rfl rfl rfl (.agg (seRow y)) (fun z => exec_load68 (.tmp 5) rfl ((w.heap.size + 1)) rfl _ _ _ _ _ ((HB5.out).ext (ext_ext _ z))) ?_
  simp only [Act.put, List.setIfInBounds_toArray, List.set_cons_succ, List.set_cons_zero]
  refine gc rfl rfl rfl rfl 61 #[.agg (seRow y)] (fun _ => by go_simp) (.int .i64 (n2 : Int)) (fun z => L2.out _ (HX0.out.trans (ext_ext _ z))) ?_
  simp only [Act.put, List.setIfInBounds_toArray, List.set_cons_succ, List.set_cons_zero]
  repeat (first | (refine gskip rfl rfl rfl rfl ?_; simp only [Act.put, List.setIfInBounds_toArray, List.set_cons_succ, List.set_cons_zero]) | (refine gq rfl rfl rfl rfl (fun K hK => ?_); go_big_quiet_op; refine hK _ ?_; clear hK K; try simp only [hd2]))
  refine gx rfl rfl rfl rfl (.agg (seRow x)) (fun z => exec_load68 (.tmp 4) rfl (w.heap.size) rfl _ _ _ _ _ ((HB4.out).ext (ext_ext _ z))) ?_
  simp only [Act.put, List.setIfInBounds_toArray, List.set_cons_succ, List.set_cons_zero]
  refine gc rfl rfl rfl rfl 62 #[.agg (seRow x)] (fun _ => by go_simp) (.bool true) (fun z => by have h := R1.out _ (HX0.out.trans (ext_ext _ z)); rw [HRX.out] at h; exact h) ?_
  simp only [Act.put, List.setIfInBounds_toArray, List.set_cons_succ, List.set_cons_zero]
  repeat (first | (refine gskip rfl rfl rfl rfl ?_; simp only [Act.put, List.setIfInBounds_toArray, List.set_cons_succ, List.set_cons_zero]) | (refine gq rfl rfl rfl rfl (fun K hK => ?_); go_big_quiet_op; refine hK _ ?_; clear hK K; try simp only [hd1]))
  refine gx rfl rfl rfl rfl (.agg (seRow y)) (fun z => exec_load68 (.tmp 5) rfl ((w.heap.size + 1)) rfl _ _ _ _ _ ((HB5.out).ext (ext_ext _ z))) ?_
  simp only [Act.put, List.setIfInBounds_toArray, List.set_cons_succ, List.set_cons_zero]
  refine gc rfl rfl rfl rfl 62 #[.agg (seRow y)] (fun _ => by go_simp) (.bool true) (fun z => by have h := R2.out _ (HX0.out.trans (ext_ext _ z)); rw [HRY.out] at h; exact h) ?_
  simp only [Act.put, List.setIfInBounds_toArray, List.set_cons_succ, List.set_cons_zero]
  repeat (first | (refine gskip rfl rfl rfl rfl ?_; simp only [Act.put, List.setIfInBounds_toArray, List.set_cons_succ, List.set_cons_zero]) | (refine gq rfl rfl rfl rfl (fun K hK => ?_); go_big_quiet_op; refine hK _ ?_; clear hK K; try simp only [hd1]))
  refine gm_end_at rfl [ ] rfl (fun xs z hk => ?_)
  clear hk
  simp only [fillM, Act.put, List.setIfInBounds_toArray, List.set_cons_succ, List.set_cons_zero]
  have HX2 := Lib.hid (HX0.out.trans (ext_ext _ z))
  have HC4 := Lib.hid (HB4.out.ext (ext_ext _ z))
  have HC5 := Lib.hid (HB5.out.ext (ext_ext _ z))
  clear HX0 HB4 HB5 hs1
  generalize W1.ext z = W2 at *
  have TA : True := trivial
  go_wp2_with (first | (clear TA; refine wpl_load68 rfl _ rfl w.heap.size rfl _ _ _ _ HC4.out ?_; have TB : True := trivial) | (go_at_call 64; clear TB; go_must (refine (E1.out _ HX2.out).mono ?_; rintro e w3 ⟨v3, rfl, hn3⟩; obtain ⟨A3, c3, e3, _, _, _, _⟩ := hn3.bs.is; rw [e3]; have hb3 := hn3.bs; rw [e3] at hb3; have HA3 := Lib.hid hb3; have HX3 := Lib.hid (HX2.out.trans hn3.ext); have HD4 := Lib.hid (HC4.out.ext hn3.ext); have HD5 := Lib.hid (HC5.out.ext hn3.ext); clear hn3 e3 hb3; have TC : True := trivial)) | (clear TC; refine wpl_load68 rfl _ rfl (w.heap.size + 1) rfl _ _ _ _ HD5.out ?_; have TD : True := trivial) | (go_at_call 64; clear TD; go_must (refine (E2.out _ HX3.out).mono ?_; rintro e w4 ⟨v4, rfl, hn4⟩; obtain ⟨A4, c4, e4, _, _, _, _⟩ := hn4.bs.is; rw [e4]; have hb4 := hn4.bs; rw [e4] at hb4; have HA4 := Lib.hid (Rd.ext HA3.out hn4.ext); have HBB4 := Lib.hid hb4; have HX4 := Lib.hid (HX3.out.trans hn4.ext); have HF4 := Lib.hid (HD4.out.ext hn4.ext); have HF5 := Lib.hid (HD5.out.ext hn4.ext); clear hn4 e4 hb4)))
  obtain ⟨V68, hV68, hr68⟩ := run_slice_every ei23 HA4.out none (some (.int .i64 ((4 : Nat) : Int))) 0 4 (.inl ⟨rfl, rfl⟩) (.inr rfl) (Nat.zero_le _) hl81
  have h68 : Bs w4 V68 magicL := Bs.of_rd (n := 4 - 0) (l := LA.take 4) (by have := hr68; simp only [Nat.mul_one, Nat.zero_mul, List.drop_zero] at this; rw [← List.map_take] at this; exact this) (by simp [magicL]) H4.out
  have H68 := Lib.hid h68
  have HV68 := Lib.hid hV68
  have hsF := HF4.out.lt
  have hcb : w4.cell? ⟨w.heap.size, 1, none⟩ = some (.int .i64 (N : Int)) := by rw [cell_of_row _ _ _ _ _ _ HF4.out, ← HXB.out]; rfl
  clear h68 hV68 hr68
  refine wp_region_m (by kernel_rfl) (by kernel_rfl) ?_; try simp only [Act.put, List.setIfInBounds_toArray, List.set_cons_succ, List.set_cons_zero]
  refine gq rfl rfl rfl rfl (fun K hK => ?_); go_big_quiet_op; refine hK _ ?_; clear hK K
  refine gq rfl rfl rfl rfl (fun K hK => ?_); go_big_quiet_op; refine hK _ ?_; clear hK K
  refine gq rfl rfl rfl rfl (fun K hK => ?_); go_big_quiet_op; refine hK _ ?_; clear hK K
  refine gq rfl rfl rfl rfl (fun K hK => ?_); go_big_quiet_op; refine hK _ ?_; clear hK K
  refine gq rfl rfl rfl rfl (fun K hK => ?_); go_big_quiet_op; refine hK _ ?_; clear hK K
  refine gq rfl rfl rfl rfl (fun K hK => ?_); go_big_quiet_op; refine hK _ ?_; clear hK K
  refine gq rfl rfl rfl rfl (fun K hK => ?_); go_big_quiet_op; refine hK _ ?_; clear hK K
  refine gq rfl rfl rfl rfl (fun K hK => ?_); go_big_quiet_op; refine hK _ ?_; clear hK K
  refine gq rfl rfl rfl rfl (fun K hK => ?_); go_big_quiet_op; refine hK _ ?_; clear hK K
  refine gq rfl rfl rfl rfl (fun K hK => ?_); go_big_quiet_op; refine hK _ ?_; clear hK K
  refine gq rfl rfl rfl rfl (fun K hK => ?_); go_big_quiet_op; refine hK _ ?_; clear hK K
  refine gq rfl rfl rfl rfl (fun K hK => ?_); go_big_quiet_op; refine hK _ ?_; clear hK K
  refine gq rfl rfl rfl rfl (fun K hK => ?_); go_big_quiet_op; refine hK _ ?_; clear hK K
  try simp only [hwi]
  refine gq rfl rfl rfl rfl (fun K hK => ?_); go_big_quiet_op; refine hK _ ?_; clear hK K
  refine gq rfl rfl rfl rfl (fun K hK => ?_); go_big_quiet_op; refine hK _ ?_; clear hK K
  refine gq rfl rfl rfl rfl (fun K hK => ?_); go_big_quiet_op; refine hK _ ?_; clear hK K
  refine gc rfl rfl rfl rfl 65 #[.int .i64 (N : Int)] (fun _ => by go_simp) (.int .i64 (p : Int)) (fun z => (parts_nat N p (by omega) HPP.out.symm _).mono (fun e w' h => ⟨h.1, h.2 ▸ Ext.refl _⟩)) ?_
  simp only [Act.put, List.setIfInBounds_toArray, List.set_cons_succ, List.set_cons_zero]
  refine gq rfl rfl rfl rfl (fun K hK => ?_); go_big_quiet_op; refine hK _ ?_; clear hK K
  refine gq rfl rfl rfl rfl (fun K hK => ?_); go_big_quiet_op; refine hK _ ?_; clear hK K
  refine gq rfl rfl rfl rfl (fun K hK => ?_); go_big_quiet_op; refine hK _ ?_; clear hK K
  try simp only [hlq]
  refine gq rfl rfl rfl rfl (fun K hK => ?_); go_big_quiet_op; refine hK _ ?_; clear hK K
  refine gq rfl rfl rfl rfl (fun K hK => ?_); go_big_quiet_op; refine hK _ ?_; clear hK K
  refine gq rfl rfl rfl rfl (fun K hK => ?_); go_big_quiet_op; refine hK _ ?_; clear hK K
  refine ge rfl rfl rfl rfl V68 (exec_slice_every ei23.t (.tmp 67) none (some (.const (.int .i64 4))) rfl _ V68 rfl none (some (.int .i64 4)) rfl rfl HV68.out) ?_
  simp only [Act.put, List.setIfInBounds_toArray, List.set_cons_succ, List.set_cons_zero]
  refine gx rfl rfl rfl rfl (Str magicL) (fun x => exec_str (.tmp 68) rfl V68 rfl magicL _ (Rd.ext H68.out (ext_ext _ x))) ?_
  simp only [Act.put, List.setIfInBounds_toArray, List.set_cons_succ, List.set_cons_zero]
  refine ge rfl rfl rfl rfl (.bool false) (fun x => by rw [exec_ne9 (.tmp 69) (.const (.string ⟨#[83, 69, 65, 76]⟩)) _ rfl magicL magicL rfl rfl]; simp) ?_
  simp only [Act.put, List.setIfInBounds_toArray, List.set_cons_succ, List.set_cons_zero]
  refine gq rfl rfl rfl rfl (fun K hK => ?_); go_big_quiet_op; refine hK _ ?_; clear hK K
  refine gm_end_at rfl [] rfl (fun xs z hk => ?_)
  clear hk hwi hlq
  simp only [fillM, Act.put, List.setIfInBounds_toArray, List.set_cons_succ, List.set_cons_zero]
  have HX5 := Lib.hid (HX4.out.trans (ext_ext _ z))
  have HG4 := Lib.hid (HF4.out.ext (ext_ext _ z))
  have HG5 := Lib.hid (HF5.out.ext (ext_ext _ z))
  have HA5 := Lib.hid (Rd.ext HA4.out (ext_ext _ z))
  have HB5 := Lib.hid (Rd.ext HBB4.out (ext_ext _ z))
  generalize w4.ext z = W5 at *
  go_wp2
  refine wp_region_m (by kernel_rfl) (by kernel_rfl) ?_; try simp only [Act.put, List.setIfInBounds_toArray, List.set_cons_succ, List.set_cons_zero]
  refine gq rfl rfl rfl rfl (fun K hK => ?_); go_big_quiet_op; refine hK _ ?_; clear hK K
  refine gq rfl rfl rfl rfl (fun K hK => ?_); go_big_quiet_op; refine hK _ ?_; clear hK K
  refine gc rfl rfl rfl rfl 49 #[.slice A3 LA.length c3, .slice A4 LB.length c4] (fun _ => by go_simp) (.bool q) (fun z => S49.out _ _ _ (Rd.ext HA5.out (ext_ext _ z)) (Rd.ext HB5.out (ext_ext _ z))) ?_
  simp only [Act.put, List.setIfInBounds_toArray, List.set_cons_succ, List.set_cons_zero]
  refine gx rfl rfl rfl rfl (.agg (seRow x)) (fun z => exec_load68 (.tmp 4) rfl (w.heap.size) rfl _ _ _ _ _ ((HG4.out).ext (ext_ext _ z))) ?_
  simp only [Act.put, List.setIfInBounds_toArray, List.set_cons_succ, List.set_cons_zero]
  refine gx rfl rfl rfl rfl (.agg (seRow y)) (fun z => exec_load68 (.tmp 5) rfl ((w.heap.size + 1)) rfl _ _ _ _ _ ((HG5.out).ext (ext_ext _ z))) ?_
  simp only [Act.put, List.setIfInBounds_toArray, List.set_cons_succ, List.set_cons_zero]
  refine gc rfl rfl rfl rfl 66 #[.agg (seRow x), .agg (seRow y)] (fun _ => by go_simp) (.bool q) (fun z => S1.out _ (HX5.out.trans (ext_ext _ z))) ?_
  simp only [Act.put, List.setIfInBounds_toArray, List.set_cons_succ, List.set_cons_zero]
  cases q
  all_goals
    refine gq rfl rfl rfl rfl (fun K hK => ?_); go_big_quiet_op; refine hK _ ?_; clear hK K
    refine gq rfl rfl rfl rfl (fun K hK => ?_); go_big_quiet_op; refine hK _ ?_; clear hK K
    refine gc rfl rfl rfl rfl 63 #[] (fun _ => by go_simp) (.bool true) (fun z => known8_any _) ?_
    simp only [Act.put, List.setIfInBounds_toArray, List.set_cons_succ, List.set_cons_zero]
    refine gq rfl rfl rfl rfl (fun K hK => ?_); go_big_quiet_op; refine hK _ ?_; clear hK K
    refine gq rfl rfl rfl rfl (fun K hK => ?_); go_big_quiet_op; refine hK _ ?_; clear hK K
    refine gm_end_at rfl [] rfl (fun xs z hk => ?_)
    clear hk
    simp only [fillM, Act.put, List.setIfInBounds_toArray, List.set_cons_succ, List.set_cons_zero]
    go_wp2
    go_ret
    exact ⟨rfl, HX5.out.trans (ext_ext _ z)⟩
theorem slong_law (kv : Value) (key : List UInt8) (x y : Se) (w : World) (hK : Bs w kv key) (hx : SeR w x) (hy : SeR w y) (hx1 : x.sl.length ≤ 140737488355328) (hx2 : x.su.length ≤ 4398046511104) (hy1 : y.sl.length ≤ 140737488355328) (hy2 : y.su.length ≤ 4398046511104) :
    Calls Try.prog 21 #[kv, x.v, y.v] w fun e w' => e = .returned (.bool true) ∧ Ext w w' := by
  by_cases hk : 100 < key.length
  · exact slong_key kv key x y w hK hx hy hx1 hx2 hy1 hy2 hk
  by_cases hn : 1500 < (x.sl.length + 32 * x.su.length) + (y.sl.length + 32 * y.su.length)
  · exact slong_big kv key x y w hK hx hy hx1 hx2 hy1 hy2 (by omega) hn
  cases hr : rightB x.blk x.sl x.su with
  | false => exact slong_x kv key x y w hK hx hy hx1 hx2 hy1 hy2 (by omega) (by omega) hr
  | true =>
    cases hr' : rightB y.blk y.sl y.su with
    | false => exact slong_y kv key x y w hK hx hy hx1 hx2 hy1 hy2 (by omega) (by omega) hr hr'
    | true =>
      obtain ⟨N, hN, _⟩ := right_bounds hr
      refine slong_good x.num N x.sl x.su x.sv x.gv kv key x y ?_ w hK hx hy hx1 hx2 hy1 hy2 (by omega) (by omega) hr hr'
      obtain ⟨a, b, c, d, e, f⟩ := x
      simp only at hN
      rw [hN]
end Go.Proofs.Ytapojpjmeadabaa
end

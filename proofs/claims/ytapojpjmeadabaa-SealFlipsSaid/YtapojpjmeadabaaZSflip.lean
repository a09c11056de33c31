/- Sflip, Sflip2: several texts in one. -/
import Derived.Test.YtapojpjmeadabaaZLawx
section
/- sacristanlaw08.SealFlips. -/
namespace Go.Proofs.Ytapojpjmeadabaa
open Go.RowKit
set_option linter.unusedVariables false
set_option linter.unusedSimpArgs false
attribute [local go_sem] lt_ext cell?_ext frozen?_ext shape?_ext

set_option maxRecDepth 100000 in
set_option maxHeartbeats 4000000 in
theorem sflip_big (x : Se) (at' ot : Nat) (w : World) (hx : SeR w x) (hx1 : x.sl.length ≤ 140737488355328) (hx2 : x.su.length ≤ 4398046511104) (hn : 1000 < x.sl.length + 32 * x.su.length) :
    Calls Try.prog 27 #[x.v, .int .u16 (at' : Int), .int .u16 (ot : Int)] w fun e w' => e = .returned (.bool true) ∧ Ext w w' := by
  obtain ⟨n1, hn1⟩ : ∃ n, x.sl.length + 32 * x.su.length = n := ⟨_, rfl⟩
  have hn1b : n1 ≤ 1407374883553280 := by omega
  have L1 : Hid (∀ w', Ext w w' → Calls Try.prog 61 #[.agg (seRow x)] w' fun e w'' => e = .returned (.int .i64 (n1 : Int)) ∧ Ext w' w'') := Lib.hid (fun w' h => by have := slong_any x w' (hx.ext h) (by omega) (by omega); rw [hn1] at this; exact this)
  have R1 : Hid (∀ w', Ext w w' → Calls Try.prog 62 #[.agg (seRow x)] w' fun e w'' => e = .returned (.bool (rightB x.blk x.sl x.su)) ∧ Ext w' w'') := Lib.hid (fun w' h => rright_any x w' (hx.ext h) hx1)
  have HNA := Lib.hid hn1
  have HX := Lib.hid hx
  have hb4 : At68 (w.alloc (.cells #[.int .u64 (x.num : Int), .int .i64 x.blk, x.sv, x.gv] 68)) w.heap.size (seRow x) := heap_alloc_last w _
  have hx0 : Ext w (w.alloc (.cells #[.int .u64 (x.num : Int), .int .i64 x.blk, x.sv, x.gv] 68)) := (Ext.refl w).alloc _
  have HB4 := Lib.hid hb4
  have HX0 := Lib.hid hx0
  have TL : True := trivial
  clear hx hn1 hb4 hx0
  have HD : Hid (decide (1000 < (n1 : Int)) = true) := Lib.hid (decide_eq_true (by have := HNA.out; omega))
  have HR : Hid (rightB x.blk x.sl x.su = rightB x.blk x.sl x.su) := Lib.hid rfl
  go_enter Try.func27, Try.ntmps27
  go_wp2_with (first | (refine wpl_v ?_ _ (exec_gtr (.tmp 12) 1000 3 rfl (n1 : Int) rfl rfl _ HD.out _) ?_; rfl) | (clear TL; refine wpl_v ?_ _ (exec_load68 (.tmp 3) rfl w.heap.size rfl _ _ _ _ _ HB4.out) ?_; rfl) | (go_at_call 61; go_must (refine (L1.out _ HX0.out).mono ?_; rintro e w2 ⟨rfl, hx2⟩; have HX2 := Lib.hid (HX0.out.trans hx2); have HC4 := Lib.hid (HB4.out.ext hx2); have hc2 : w2.cell? ⟨w.heap.size, 1, none⟩ = some (.int .i64 x.blk) := (by rw [cell_of_row _ _ _ _ _ _ HC4.out]; rfl); clear hx2; skip)) | (clear TM; refine wpl_v ?_ _ (exec_load68 (.tmp 3) rfl w.heap.size rfl _ _ _ _ _ HC4.out) ?_; rfl) | (go_at_call 62; go_must (refine (R1.out _ HX2.out).mono ?_; rintro e w3 ⟨rfl, hx3⟩; rw [HR.out]; have HX3 := Lib.hid (HX2.out.trans hx3); have HD4 := Lib.hid (HC4.out.ext hx3); have hc3 : w3.cell? ⟨w.heap.size, 1, none⟩ = some (.int .i64 x.blk) := (by rw [cell_of_row _ _ _ _ _ _ HD4.out]; rfl); clear hx3)) | (go_at_call 63; go_must (refine (known8_any _).mono ?_; rintro e w9 ⟨rfl, hx9⟩; have HX9 := Lib.hid hx9; clear hx9)))
  go_ret
  exact ⟨rfl, HX2.out.trans HX9.out⟩
set_option maxRecDepth 100000 in
set_option maxHeartbeats 4000000 in
theorem sflip_not (x : Se) (at' ot : Nat) (w : World) (hx : SeR w x) (hx1 : x.sl.length ≤ 140737488355328) (hx2 : x.su.length ≤ 4398046511104) (hn : x.sl.length + 32 * x.su.length ≤ 1000) (hr : rightB x.blk x.sl x.su = false) :
    Calls Try.prog 27 #[x.v, .int .u16 (at' : Int), .int .u16 (ot : Int)] w fun e w' => e = .returned (.bool true) ∧ Ext w w' := by
  obtain ⟨n1, hn1⟩ : ∃ n, x.sl.length + 32 * x.su.length = n := ⟨_, rfl⟩
  have hn1b : n1 ≤ 1407374883553280 := by omega
  have L1 : Hid (∀ w', Ext w w' → Calls Try.prog 61 #[.agg (seRow x)] w' fun e w'' => e = .returned (.int .i64 (n1 : Int)) ∧ Ext w' w'') := Lib.hid (fun w' h => by have := slong_any x w' (hx.ext h) (by omega) (by omega); rw [hn1] at this; exact this)
  have R1 : Hid (∀ w', Ext w w' → Calls Try.prog 62 #[.agg (seRow x)] w' fun e w'' => e = .returned (.bool (rightB x.blk x.sl x.su)) ∧ Ext w' w'') := Lib.hid (fun w' h => rright_any x w' (hx.ext h) hx1)
  have HNA := Lib.hid hn1
  have HX := Lib.hid hx
  have hb4 : At68 (w.alloc (.cells #[.int .u64 (x.num : Int), .int .i64 x.blk, x.sv, x.gv] 68)) w.heap.size (seRow x) := heap_alloc_last w _
  have hx0 : Ext w (w.alloc (.cells #[.int .u64 (x.num : Int), .int .i64 x.blk, x.sv, x.gv] 68)) := (Ext.refl w).alloc _
  have HB4 := Lib.hid hb4
  have HX0 := Lib.hid hx0
  have TL : True := trivial
  clear hx hn1 hb4 hx0
  have HD : Hid (decide (1000 < (n1 : Int)) = false) := Lib.hid (decide_eq_false (by have := HNA.out; omega))
  have HR := Lib.hid hr
  clear hr
  go_enter Try.func27, Try.ntmps27
  go_wp2_with (first | (refine wpl_v ?_ _ (exec_gtr (.tmp 12) 1000 3 rfl (n1 : Int) rfl rfl _ HD.out _) ?_; rfl) | (clear TL; refine wpl_v ?_ _ (exec_load68 (.tmp 3) rfl w.heap.size rfl _ _ _ _ _ HB4.out) ?_; rfl) | (go_at_call 61; go_must (refine (L1.out _ HX0.out).mono ?_; rintro e w2 ⟨rfl, hx2⟩; have HX2 := Lib.hid (HX0.out.trans hx2); have HC4 := Lib.hid (HB4.out.ext hx2); have hc2 : w2.cell? ⟨w.heap.size, 1, none⟩ = some (.int .i64 x.blk) := (by rw [cell_of_row _ _ _ _ _ _ HC4.out]; rfl); clear hx2; have TM : True := trivial)) | (clear TM; refine wpl_v ?_ _ (exec_load68 (.tmp 3) rfl w.heap.size rfl _ _ _ _ _ HC4.out) ?_; rfl) | (go_at_call 62; go_must (refine (R1.out _ HX2.out).mono ?_; rintro e w3 ⟨rfl, hx3⟩; rw [HR.out]; have HX3 := Lib.hid (HX2.out.trans hx3); have HD4 := Lib.hid (HC4.out.ext hx3); have hc3 : w3.cell? ⟨w.heap.size, 1, none⟩ = some (.int .i64 x.blk) := (by rw [cell_of_row _ _ _ _ _ _ HD4.out]; rfl); clear hx3)) | (go_at_call 63; go_must (refine (known8_any _).mono ?_; rintro e w9 ⟨rfl, hx9⟩; have HX9 := Lib.hid hx9; clear hx9)))
  go_ret
  exact ⟨rfl, HX3.out.trans HX9.out⟩
set_option maxRecDepth 100000 in
set_option maxHeartbeats 4000000 in
theorem sflip_none (x : Se) (at' ot : Nat) (w : World) (hx : SeR w x) (hx1 : x.sl.length ≤ 140737488355328) (hx2 : x.su.length ≤ 4398046511104) (hn : x.sl.length + 32 * x.su.length ≤ 1000) (hr : rightB x.blk x.sl x.su = true) (h0 : x.blk = 0) :
    Calls Try.prog 27 #[x.v, .int .u16 (at' : Int), .int .u16 (ot : Int)] w fun e w' => e = .returned (.bool true) ∧ Ext w w' := by
  obtain ⟨n1, hn1⟩ : ∃ n, x.sl.length + 32 * x.su.length = n := ⟨_, rfl⟩
  have hn1b : n1 ≤ 1407374883553280 := by omega
  have L1 : Hid (∀ w', Ext w w' → Calls Try.prog 61 #[.agg (seRow x)] w' fun e w'' => e = .returned (.int .i64 (n1 : Int)) ∧ Ext w' w'') := Lib.hid (fun w' h => by have := slong_any x w' (hx.ext h) (by omega) (by omega); rw [hn1] at this; exact this)
  have R1 : Hid (∀ w', Ext w w' → Calls Try.prog 62 #[.agg (seRow x)] w' fun e w'' => e = .returned (.bool (rightB x.blk x.sl x.su)) ∧ Ext w' w'') := Lib.hid (fun w' h => rright_any x w' (hx.ext h) hx1)
  have HNA := Lib.hid hn1
  have HX := Lib.hid hx
  have hb4 : At68 (w.alloc (.cells #[.int .u64 (x.num : Int), .int .i64 x.blk, x.sv, x.gv] 68)) w.heap.size (seRow x) := heap_alloc_last w _
  have hx0 : Ext w (w.alloc (.cells #[.int .u64 (x.num : Int), .int .i64 x.blk, x.sv, x.gv] 68)) := (Ext.refl w).alloc _
  have HB4 := Lib.hid hb4
  have HX0 := Lib.hid hx0
  have TL : True := trivial
  clear hx hn1 hb4 hx0
  have HD : Hid (decide (1000 < (n1 : Int)) = false) := Lib.hid (decide_eq_false (by have := HNA.out; omega))
  have HR := Lib.hid hr
  have H0 := Lib.hid h0
  clear hr h0
  go_enter Try.func27, Try.ntmps27
  go_wp2_with (first | (refine wpl_v ?_ _ (exec_gtr (.tmp 12) 1000 3 rfl (n1 : Int) rfl rfl _ HD.out _) ?_; rfl) | (clear TL; refine wpl_v ?_ _ (exec_load68 (.tmp 3) rfl w.heap.size rfl _ _ _ _ _ HB4.out) ?_; rfl) | (go_at_call 61; go_must (refine (L1.out _ HX0.out).mono ?_; rintro e w2 ⟨rfl, hx2⟩; have HX2 := Lib.hid (HX0.out.trans hx2); have HC4 := Lib.hid (HB4.out.ext hx2); have hc2 : w2.cell? ⟨w.heap.size, 1, none⟩ = some (.int .i64 x.blk) := (by rw [cell_of_row _ _ _ _ _ _ HC4.out]; rfl); clear hx2; have TM : True := trivial)) | (clear TM; refine wpl_v ?_ _ (exec_load68 (.tmp 3) rfl w.heap.size rfl _ _ _ _ _ HC4.out) ?_; rfl) | (go_at_call 62; go_must (refine (R1.out _ HX2.out).mono ?_; rintro e w3 ⟨rfl, hx3⟩; rw [HR.out]; have HX3 := Lib.hid (HX2.out.trans hx3); have HD4 := Lib.hid (HC4.out.ext hx3); have hc3 : w3.cell? ⟨w.heap.size, 1, none⟩ = some (.int .i64 0) := (by rw [cell_of_row _ _ _ _ _ _ HD4.out]; rw [← H0.out]; rfl); clear hx3)) | (go_at_call 63; go_must (refine (known8_any _).mono ?_; rintro e w9 ⟨rfl, hx9⟩; have HX9 := Lib.hid hx9; clear hx9)))
  go_ret
  exact ⟨rfl, HX3.out.trans HX9.out⟩
end Go.Proofs.Ytapojpjmeadabaa
end

section
/- sacristanlaw08.SealFlips. -/
namespace Go.Proofs.Ytapojpjmeadabaa
open Go.RowKit
set_option linter.unusedVariables false
set_option linter.unusedSimpArgs false
attribute [local go_sem] lt_ext cell?_ext frozen?_ext shape?_ext

set_option maxRecDepth 100000 in
set_option maxHeartbeats 8000000 in
theorem sflip_good (num N : Nat) (sl : List UInt8) (su : List (List UInt8)) (sv gv : Value) (at' ot : Nat) (hat : at' ≤ 65535) (hot : ot ≤ 65535) (w : World) (hx : SeR w ⟨num, N, sl, su, sv, gv⟩) (hn : sl.length + 32 * su.length ≤ 1000) (hr : rightB N sl su = true) (h0 : 0 < N) :
    Calls Try.prog 27 #[.agg (seRow ⟨num, N, sl, su, sv, gv⟩), .int .u16 (at' : Int), .int .u16 (ot : Int)] w fun e w' => e = .returned (.bool true) ∧ Ext w w' := by
  obtain ⟨N', hN', hNb, hsl, hsu⟩ := right_bounds hr
  obtain rfl : N = N' := by omega
  obtain ⟨n1, hn1⟩ : ∃ n, sl.length + 32 * su.length = n := ⟨_, rfl⟩
  have hnum := hx.num
  have L1 : Hid (∀ w', Ext w w' → Calls Try.prog 61 #[.agg (seRow ⟨num, N, sl, su, sv, gv⟩)] w' fun e w'' => e = .returned (.int .i64 (n1 : Int)) ∧ Ext w' w'') := Lib.hid (fun w' h => by have := slong_any _ w' (hx.ext h) (show sl.length ≤ _ by omega) (show su.length ≤ _ by omega); rw [show (⟨num, N, sl, su, sv, gv⟩ : Se).sl.length + 32 * (⟨num, N, sl, su, sv, gv⟩ : Se).su.length = n1 from hn1] at this; exact this)
  have R1 : Hid (∀ w', Ext w w' → Calls Try.prog 62 #[.agg (seRow ⟨num, N, sl, su, sv, gv⟩)] w' fun e w'' => e = .returned (.bool true) ∧ Ext w' w'') := Lib.hid (fun w' h => by have := rright_any _ w' (hx.ext h) (show sl.length ≤ _ by omega); rw [show rightB (⟨num, N, sl, su, sv, gv⟩ : Se).blk (⟨num, N, sl, su, sv, gv⟩ : Se).sl (⟨num, N, sl, su, sv, gv⟩ : Se).su = true from hr] at this; exact this)
  obtain ⟨k, hk⟩ : ∃ k, at' % N = k := ⟨_, rfl⟩
  obtain ⟨o, ho⟩ : ∃ o, ot % N = o := ⟨_, rfl⟩
  have hkN : k < N := by rw [← hk]; exact Nat.mod_lt _ h0
  have hoN : o < N := by rw [← ho]; exact Nat.mod_lt _ h0
  have hk8 : k / 8 < sl.length := by omega
  have ho8 : o / 8 < sl.length := by omega
  have hki : (at' : Int) % (N : Int) = (k : Int) := by rw [← hk]; simp
  have hoi : (ot : Int) % (N : Int) = (o : Int) := by rw [← ho]; simp
  have hkt : Int.tmod (at' : Int) (N : Int) = (k : Int) := by rw [Int.tmod_eq_emod_of_nonneg (by omega)]; exact hki
  have hott : Int.tmod (ot : Int) (N : Int) = (o : Int) := by rw [Int.tmod_eq_emod_of_nonneg (by omega)]; exact hoi
  have hN0 : ¬ (N : Int) = 0 := by omega
  obtain ⟨fl, hfl⟩ : ∃ fl, flipN sl k = fl := ⟨_, rfl⟩
  have hfll : fl.length = sl.length := by rw [← hfl]; exact flipN_len _ _
  have hrf : rightB N fl su = true := by rw [← hfl]; exact right_flip N sl su k hkN hr
  have hss : slotN fl k = 1 - slotN sl k := by rw [← hfl]; exact slot_flip sl k hk8
  have hso : o ≠ k → slotN fl o = slotN sl o := fun h => by rw [← hfl]; exact slot_else sl k o hk8 h
  have hnes : fl ≠ sl := by rw [← hfl]; exact flip_ne sl k hk8
  obtain ⟨s1, hs1⟩ : ∃ s, slotN sl k = s := ⟨_, rfl⟩
  obtain ⟨s2, hs2⟩ : ∃ s, slotN sl o = s := ⟨_, rfl⟩
  have hs1b : s1 < 2 := by rw [← hs1]; exact slotN_lt _ _
  rw [hs1] at hss
  rw [hs2] at hso
  have F9 : Hid (∀ w', Ext w w' → Calls Try.prog 77 #[.agg (seRow ⟨num, N, sl, su, sv, gv⟩), .int .i64 (-1)] w' fun e w'' => ∃ v, e = .returned (.agg #[.int .u64 (num : Int), .int .i64 (N : Int), v, gv]) ∧ Bs w'' v sl ∧ Ext w' w'') := Lib.hid (fun w' h => by have := rflip_any _ (-1) w' (hx.ext h) (show sl.length ≤ _ by omega) (by decide) (by decide); exact this)
  have F10 : Hid (∀ w', Ext w w' → Calls Try.prog 69 #[.agg (seRow ⟨num, N, sl, su, sv, gv⟩), .int .i64 (k : Int)] w' fun e w'' => ∃ v7 v10, e = .returned (.agg #[.int .u64 (num : Int), .int .i64 (N : Int), v7, v10]) ∧ NewB w' v7 fl w'' ∧ NewD w' v10 su w'') := Lib.hid (fun w' h => by
    have := flip_any ⟨num, N, sl, su, sv, gv⟩ (k : Int) w' (hx.ext h) (show sl.length ≤ _ by omega) (show su.length ≤ _ by omega) (by omega) (by omega)
    have e : flipL sl (N : Int) (k : Int) = fl := by unfold flipL; rw [if_pos (by omega), Int.toNat_natCast]; exact hfl
    rw [show flipL (⟨num, N, sl, su, sv, gv⟩ : Se).sl (⟨num, N, sl, su, sv, gv⟩ : Se).blk (k : Int) = fl from e] at this
    exact this)
  have HSS := Lib.hid hss
  have HSO := Lib.hid hso
  have HNE := Lib.hid hnes
  have HRF := Lib.hid hrf
  have HX := Lib.hid hx
  have HS1 := Lib.hid hs1
  have HS2 := Lib.hid hs2
  have HFLL := Lib.hid hfll
  have HNQ := Lib.hid hn1
  have HD : Hid (decide (1000 < (n1 : Int)) = false) := Lib.hid (decide_eq_false (by omega))
  have hb4 : At68 (w.alloc (.cells #[.int .u64 (num : Int), .int .i64 (N : Int), sv, gv] 68)) w.heap.size (seRow ⟨num, N, sl, su, sv, gv⟩) := heap_alloc_last w _
  have hx0 : Ext w (w.alloc (.cells #[.int .u64 (num : Int), .int .i64 (N : Int), sv, gv] 68)) := (Ext.refl w).alloc _
  have HB4 := Lib.hid hb4
  have HX0 := Lib.hid hx0
  have TL : True := trivial
  clear hx hn1 hb4 hx0 hfl hss hso hnes hrf hs1 hs2 hk ho hr hN' hfll hki hoi hsl hsu
  go_enter Try.func27, Try.ntmps27
  go_wp2_with (first | (refine wpl_v ?_ _ (exec_gtr (.tmp 12) 1000 3 rfl (n1 : Int) rfl rfl _ HD.out _) ?_; rfl) | (clear TL; refine wpl_v ?_ _ (exec_load68 (.tmp 3) rfl w.heap.size rfl _ _ _ _ _ HB4.out) ?_; rfl) | (go_at_call 61; go_must (refine (L1.out _ HX0.out).mono ?_; rintro e w2 ⟨rfl, hx2⟩; have HX2 := Lib.hid (HX0.out.trans hx2); have HC4 := Lib.hid (HB4.out.ext hx2); clear hx2; have TM : True := trivial)) | (clear TM; refine wpl_v ?_ _ (exec_load68 (.tmp 3) rfl w.heap.size rfl _ _ _ _ _ HC4.out) ?_; rfl) | (go_at_call 62; go_must (refine (R1.out _ HX2.out).mono ?_; rintro e w3 ⟨rfl, hx3⟩; have HX3 := Lib.hid (HX2.out.trans hx3); have HD4 := Lib.hid (HC4.out.ext hx3); have hc3 : w3.cell? ⟨w.heap.size, 1, none⟩ = some (.int .i64 (N : Int)) := (by rw [cell_of_row _ _ _ _ _ _ HD4.out]; rfl); have hs3 := HD4.out.lt; clear hx3; have TA : True := trivial)) | (clear TA; refine wpl_load68 rfl _ rfl w.heap.size rfl _ _ _ _ HD4.out ?_) | (go_at_call 77; go_must (refine (F9.out _ HX3.out).mono ?_; rintro e w4 ⟨v9, rfl, hb9, hx4⟩; have HX4 := Lib.hid (HX3.out.trans hx4); have HE4 := Lib.hid (HD4.out.ext hx4); have HW : Hid (SeR w4 ⟨num, N, sl, su, v9, gv⟩) := Lib.hid ⟨hb9, HX.out.su.ext HX4.out, hnum, (show (-9223372036854775808 : Int) ≤ (N : Int) by omega), (show (N : Int) ≤ 9223372036854775807 by omega)⟩; clear hx4 hb9; have TB : True := trivial)) | (clear TB; refine wpl_store68 rfl _ _ rfl w4.heap.size (.int .u64 (num : Int)) (.int .i64 (N : Int)) v9 gv (.int .u64 0) (.int .i64 0) (.slice none 0 0) (.slice none 0 0) rfl rfl (seRow_one HW.out) (heap_alloc_last w4 _) ?_; intro w5 h5 hu5; have hx5 : Ext w4 w5 := ((Ext.refl w4).alloc _).upd_new hu5 (Nat.le_refl _); have HX5 := Lib.hid (HX4.out.trans hx5); have HF4 := Lib.hid (HE4.out.ext hx5); have HW5 := Lib.hid (HW.out.ext hx5); have HG9 : Hid (At68 w5 w4.heap.size (seRow ⟨num, N, sl, su, v9, gv⟩)) := Lib.hid h5; clear h5 hu5 hx5; have TC : True := trivial) | (clear TC; refine wpl_load68 rfl _ rfl w.heap.size rfl _ _ _ _ HF4.out ?_) | (go_at_call 69; go_must (refine (F10.out _ HX5.out).mono ?_; rintro e w6 ⟨v7, v10, rfl, hb7, hd10⟩; have HX6 := Lib.hid (HX5.out.trans hb7.ext); have HI4 := Lib.hid (HF4.out.ext hb7.ext); have HW6 := Lib.hid (HW5.out.ext hb7.ext); have HI9 := Lib.hid (HG9.out.ext hb7.ext); have HY : Hid (SeR w6 ⟨num, N, fl, su, v7, v10⟩) := Lib.hid ⟨hb7.bs, hd10.dgs, hnum, (show (-9223372036854775808 : Int) ≤ (N : Int) by omega), (show (N : Int) ≤ 9223372036854775807 by omega)⟩; clear hb7 hd10; have TD : True := trivial)) | (clear TD; refine wpl_store68 rfl _ _ rfl w6.heap.size (.int .u64 (num : Int)) (.int .i64 (N : Int)) v7 v10 (.int .u64 0) (.int .i64 0) (.slice none 0 0) (.slice none 0 0) rfl rfl (seRow_one HY.out) (heap_alloc_last w6 _) ?_; intro w7 h7 hu7; have hx7 : Ext w6 w7 := ((Ext.refl w6).alloc _).upd_new hu7 (Nat.le_refl _); have HX7 := Lib.hid (HX6.out.trans hx7); have HJ4 := Lib.hid (HI4.out.ext hx7); have HW7 := Lib.hid (HW6.out.ext hx7); have HJ9 := Lib.hid (HI9.out.ext hx7); have HY7 := Lib.hid (HY.out.ext hx7); have HJ10 : Hid (At68 w7 w6.heap.size (seRow ⟨num, N, fl, su, v7, v10⟩)) := Lib.hid h7; clear h7 hu7 hx7))
  have HX77 : Hid (SeR w7 ⟨num, N, sl, su, sv, gv⟩) := Lib.hid (HX.out.ext HX7.out)
  obtain ⟨g9, hg9⟩ : ∃ g, w4.heap.size = g := ⟨_, rfl⟩
  obtain ⟨g10, hg10⟩ : ∃ g, w6.heap.size = g := ⟨_, rfl⟩
  rw [hg9] at HJ9
  rw [hg10] at HJ10
  rw [hg9, hg10]
  have hl4 := HJ4.out.lt
  have hl10 := HJ10.out.lt
  have C1 : Hid (∀ w', Ext w7 w' → Calls Try.prog 66 #[.agg (seRow ⟨num, N, sl, su, sv, gv⟩), .agg (seRow ⟨num, N, sl, su, v9, gv⟩)] w' fun e w'' => e = .returned (.bool true) ∧ Ext w' w'') := Lib.hid (fun w' h => by
    have := rsame_any _ _ w' (HX77.out.ext h) (HW7.out.ext h) (show su.length ≤ _ by omega)
    rw [show sameB (⟨num, N, sl, su, sv, gv⟩ : Se) ⟨num, N, sl, su, v9, gv⟩ = true by simp [sameB]] at this
    exact this)
  have C2 : Hid (∀ w', Ext w7 w' → Calls Try.prog 67 #[.agg (seRow ⟨num, N, fl, su, v7, v10⟩)] w' fun e w'' => e = .returned (.bool true) ∧ Ext w' w'') := Lib.hid (fun w' h => by
    have := sright_any _ w' (HY7.out.ext h)
    rw [show rightB (⟨num, N, fl, su, v7, v10⟩ : Se).blk (⟨num, N, fl, su, v7, v10⟩ : Se).sl (⟨num, N, fl, su, v7, v10⟩ : Se).su = true from HRF.out] at this
    exact this)
  have C3 : Hid (∀ w', Ext w7 w' → Calls Try.prog 78 #[.agg (seRow ⟨num, N, sl, su, sv, gv⟩), .agg (seRow ⟨num, N, fl, su, v7, v10⟩)] w' fun e w'' => e = .returned (.bool false) ∧ Ext w' w'') := Lib.hid (fun w' h => by
    have := ssame_any _ _ w' (HX77.out.ext h) (HY7.out.ext h)
    rw [show sameB (⟨num, N, sl, su, sv, gv⟩ : Se) ⟨num, N, fl, su, v7, v10⟩ = false by simp [sameB, Ne.symm HNE.out]] at this
    exact this)
  have SX : Hid (∀ i w', i / 8 < sl.length → i ≤ 4096 → Ext w7 w' → Calls Try.prog 75 #[.agg (seRow ⟨num, N, sl, su, sv, gv⟩), .int .i64 (i : Int)] w' fun e w'' => e = .returned (.int .i64 (slotN sl i : Int)) ∧ Ext w' w'') := Lib.hid (fun i w' hi hib h => slot_in _ _ sv gv sl i hi (by omega) ⟨_, rfl⟩ ⟨_, rfl⟩ (by obtain ⟨_, _, e, _⟩ := HX.out.su.rd.is; exact ⟨_, _, _, e⟩) w' (HX77.out.ext h).sl)
  have SY : Hid (∀ i w', i / 8 < sl.length → i ≤ 4096 → Ext w7 w' → Calls Try.prog 75 #[.agg (seRow ⟨num, N, fl, su, v7, v10⟩), .int .i64 (i : Int)] w' fun e w'' => e = .returned (.int .i64 (slotN fl i : Int)) ∧ Ext w' w'') := Lib.hid (fun i w' hi hib h => slot_in _ _ v7 v10 fl i (by rw [HFLL.out]; exact hi) (by omega) ⟨_, rfl⟩ ⟨_, rfl⟩ (by obtain ⟨_, _, e, _⟩ := HY7.out.su.rd.is; exact ⟨_, _, _, e⟩) w' (HY7.out.ext h).sl)
  have cy0 : w7.cell? ⟨g10, 0, none⟩ = some (.int .u64 (num : Int)) := by rw [cell_of_row _ _ _ _ _ _ HJ10.out]; rfl
  have cx0 : w7.cell? ⟨w.heap.size, 0, none⟩ = some (.int .u64 (num : Int)) := by rw [cell_of_row _ _ _ _ _ _ HJ4.out]; rfl
  have hq1 : ((((1 - s1 : Nat)) : Int) == 1 - (s1 : Int)) = true := by
    have : (((1 - s1 : Nat)) : Int) = 1 - (s1 : Int) := by omega
    simpa using this
  clear hkt hott hg9 hg10
  refine wp_region_m (by kernel_rfl) (by kernel_rfl) ?_; try simp only [Act.put, List.setIfInBounds_toArray, List.set_cons_succ, List.set_cons_zero]
  refine gx rfl rfl rfl rfl (.agg (seRow ⟨num, N, sl, su, sv, gv⟩)) (fun z => exec_load68 (.tmp 3) rfl (w.heap.size) rfl _ _ _ _ _ ((HJ4.out).ext (ext_ext _ z))) ?_
  simp only [Act.put, List.setIfInBounds_toArray, List.set_cons_succ, List.set_cons_zero]
  refine gx rfl rfl rfl rfl (.agg (seRow ⟨num, N, sl, su, v9, gv⟩)) (fun z => exec_load68 (.tmp 9) rfl (g9) rfl _ _ _ _ _ ((HJ9.out).ext (ext_ext _ z))) ?_
  simp only [Act.put, List.setIfInBounds_toArray, List.set_cons_succ, List.set_cons_zero]
  refine gc rfl rfl rfl rfl 66 #[.agg (seRow ⟨num, N, sl, su, sv, gv⟩), .agg (seRow ⟨num, N, sl, su, v9, gv⟩)] (fun _ => by go_simp) (.bool true) (fun z => C1.out _ (ext_ext _ z)) ?_
  simp only [Act.put, List.setIfInBounds_toArray, List.set_cons_succ, List.set_cons_zero]
  refine gq rfl rfl rfl rfl (fun K hK => ?_); go_big_quiet_op; refine hK _ ?_; clear hK K
  refine gx rfl rfl rfl rfl (.agg (seRow ⟨num, N, fl, su, v7, v10⟩)) (fun z => exec_load68 (.tmp 10) rfl (g10) rfl _ _ _ _ _ ((HJ10.out).ext (ext_ext _ z))) ?_
  simp only [Act.put, List.setIfInBounds_toArray, List.set_cons_succ, List.set_cons_zero]
  refine gc rfl rfl rfl rfl 67 #[.agg (seRow ⟨num, N, fl, su, v7, v10⟩)] (fun _ => by go_simp) (.bool true) (fun z => C2.out _ (ext_ext _ z)) ?_
  simp only [Act.put, List.setIfInBounds_toArray, List.set_cons_succ, List.set_cons_zero]
  refine gq rfl rfl rfl rfl (fun K hK => ?_); go_big_quiet_op; refine hK _ ?_; clear hK K
  refine gq rfl rfl rfl rfl (fun K hK => ?_); go_big_quiet_op; refine hK _ ?_; clear hK K
  refine gx rfl rfl rfl rfl (.agg (seRow ⟨num, N, fl, su, v7, v10⟩)) (fun z => exec_load68 (.tmp 10) rfl (g10) rfl _ _ _ _ _ ((HJ10.out).ext (ext_ext _ z))) ?_
  simp only [Act.put, List.setIfInBounds_toArray, List.set_cons_succ, List.set_cons_zero]
  refine gq rfl rfl rfl rfl (fun K hK => ?_); go_big_quiet_op; refine hK _ ?_; clear hK K
  refine gc rfl rfl rfl rfl 75 #[.agg (seRow ⟨num, N, fl, su, v7, v10⟩), .int .i64 (k : Int)] (fun _ => by go_simp) (.int .i64 ((1 - s1 : Nat) : Int)) (fun z => by have h := SY.out k _ hk8 (by omega) (ext_ext _ z); rw [HSS.out] at h; exact h) ?_
  simp only [Act.put, List.setIfInBounds_toArray, List.set_cons_succ, List.set_cons_zero]
  refine gx rfl rfl rfl rfl (.agg (seRow ⟨num, N, sl, su, sv, gv⟩)) (fun z => exec_load68 (.tmp 3) rfl (w.heap.size) rfl _ _ _ _ _ ((HJ4.out).ext (ext_ext _ z))) ?_
  simp only [Act.put, List.setIfInBounds_toArray, List.set_cons_succ, List.set_cons_zero]
  refine gq rfl rfl rfl rfl (fun K hK => ?_); go_big_quiet_op; refine hK _ ?_; clear hK K
  refine gc rfl rfl rfl rfl 75 #[.agg (seRow ⟨num, N, sl, su, sv, gv⟩), .int .i64 (k : Int)] (fun _ => by go_simp) (.int .i64 (s1 : Int)) (fun z => by have h := SX.out k _ hk8 (by omega) (ext_ext _ z); rw [HS1.out] at h; exact h) ?_
  simp only [Act.put, List.setIfInBounds_toArray, List.set_cons_succ, List.set_cons_zero]
  refine gq rfl rfl rfl rfl (fun K hK => ?_); go_big_quiet_op; refine hK _ ?_; clear hK K
  refine gq rfl rfl rfl rfl (fun K hK => ?_); go_big_quiet_op; refine hK _ ?_; clear hK K
  try simp only [hq1]
  refine gq rfl rfl rfl rfl (fun K hK => ?_); go_big_quiet_op; refine hK _ ?_; clear hK K
  refine gq rfl rfl rfl rfl (fun K hK => ?_); go_big_quiet_op; refine hK _ ?_; clear hK K
  by_cases hok : o = k
  · subst hok
    repeat (first | (refine gskip rfl rfl rfl rfl ?_; simp only [Act.put, List.setIfInBounds_toArray, List.set_cons_succ, List.set_cons_zero]) | (refine gq rfl rfl rfl rfl (fun K hK => ?_); go_big_quiet_op; refine hK _ ?_; clear hK K; try simp only [hq1]))
    refine gx rfl rfl rfl rfl (.agg (seRow ⟨num, N, sl, su, sv, gv⟩)) (fun z => exec_load68 (.tmp 3) rfl (w.heap.size) rfl _ _ _ _ _ ((HJ4.out).ext (ext_ext _ z))) ?_
    simp only [Act.put, List.setIfInBounds_toArray, List.set_cons_succ, List.set_cons_zero]
    refine gx rfl rfl rfl rfl (.agg (seRow ⟨num, N, fl, su, v7, v10⟩)) (fun z => exec_load68 (.tmp 10) rfl (g10) rfl _ _ _ _ _ ((HJ10.out).ext (ext_ext _ z))) ?_
    simp only [Act.put, List.setIfInBounds_toArray, List.set_cons_succ, List.set_cons_zero]
    refine gc rfl rfl rfl rfl 78 #[.agg (seRow ⟨num, N, sl, su, sv, gv⟩), .agg (seRow ⟨num, N, fl, su, v7, v10⟩)] (fun _ => by go_simp) (.bool false) (fun z => C3.out _ (ext_ext _ z)) ?_
    simp only [Act.put, List.setIfInBounds_toArray, List.set_cons_succ, List.set_cons_zero]
    refine gq rfl rfl rfl rfl (fun K hK => ?_); go_big_quiet_op; refine hK _ ?_; clear hK K
    refine gq rfl rfl rfl rfl (fun K hK => ?_); go_big_quiet_op; refine hK _ ?_; clear hK K
    refine gq rfl rfl rfl rfl (fun K hK => ?_); go_big_quiet_op; refine hK _ ?_; clear hK K
    refine gc rfl rfl rfl rfl 63 #[] (fun _ => by go_simp) (.bool true) (fun z => known8_any _) ?_
    simp only [Act.put, List.setIfInBounds_toArray, List.set_cons_succ, List.set_cons_zero]
    refine gq rfl rfl rfl rfl (fun K hK => ?_); go_big_quiet_op; refine hK _ ?_; clear hK K
    refine gq rfl rfl rfl rfl (fun K hK => ?_); go_big_quiet_op; refine hK _ ?_; clear hK K
    refine gm_end_at rfl [ ] rfl (fun xs z hk => ?_)
    clear hk
    simp only [fillM, Act.put, List.setIfInBounds_toArray, List.set_cons_succ, List.set_cons_zero]
    go_wp2
    go_ret
    exact ⟨rfl, HX7.out.trans (ext_ext _ z)⟩
  · have hoki : ((o : Int) == (k : Int)) = false := by
      have : ¬ (o : Int) = (k : Int) := by omega
      simpa using this
    refine gq rfl rfl rfl rfl (fun K hK => ?_); go_big_quiet_op; refine hK _ ?_; clear hK K
    refine gq rfl rfl rfl rfl (fun K hK => ?_); go_big_quiet_op; refine hK _ ?_; clear hK K
    refine gq rfl rfl rfl rfl (fun K hK => ?_); go_big_quiet_op; refine hK _ ?_; clear hK K
    try simp only [hoki]
    refine gq rfl rfl rfl rfl (fun K hK => ?_); go_big_quiet_op; refine hK _ ?_; clear hK K
    refine gx rfl rfl rfl rfl (.agg (seRow ⟨num, N, fl, su, v7, v10⟩)) (fun z => exec_load68 (.tmp 10) rfl (g10) rfl _ _ _ _ _ ((HJ10.out).ext (ext_ext _ z))) ?_
    simp only [Act.put, List.setIfInBounds_toArray, List.set_cons_succ, List.set_cons_zero]
    refine gq rfl rfl rfl rfl (fun K hK => ?_); go_big_quiet_op; refine hK _ ?_; clear hK K
    refine gc rfl rfl rfl rfl 75 #[.agg (seRow ⟨num, N, fl, su, v7, v10⟩), .int .i64 (o : Int)] (fun _ => by go_simp) (.int .i64 (s2 : Int)) (fun z => by have h := SY.out o _ ho8 (by omega) (ext_ext _ z); rw [HSO.out hok] at h; exact h) ?_
    simp only [Act.put, List.setIfInBounds_toArray, List.set_cons_succ, List.set_cons_zero]
    refine gx rfl rfl rfl rfl (.agg (seRow ⟨num, N, sl, su, sv, gv⟩)) (fun z => exec_load68 (.tmp 3) rfl (w.heap.size) rfl _ _ _ _ _ ((HJ4.out).ext (ext_ext _ z))) ?_
    simp only [Act.put, List.setIfInBounds_toArray, List.set_cons_succ, List.set_cons_zero]
    refine gq rfl rfl rfl rfl (fun K hK => ?_); go_big_quiet_op; refine hK _ ?_; clear hK K
    refine gc rfl rfl rfl rfl 75 #[.agg (seRow ⟨num, N, sl, su, sv, gv⟩), .int .i64 (o : Int)] (fun _ => by go_simp) (.int .i64 (s2 : Int)) (fun z => by have h := SX.out o _ ho8 (by omega) (ext_ext _ z); rw [HS2.out] at h; exact h) ?_
    simp only [Act.put, List.setIfInBounds_toArray, List.set_cons_succ, List.set_cons_zero]
    repeat (first | (refine gskip rfl rfl rfl rfl ?_; simp only [Act.put, List.setIfInBounds_toArray, List.set_cons_succ, List.set_cons_zero]) | (refine gq rfl rfl rfl rfl (fun K hK => ?_); go_big_quiet_op; refine hK _ ?_; clear hK K; try simp only [hoki]))
    refine gx rfl rfl rfl rfl (.agg (seRow ⟨num, N, sl, su, sv, gv⟩)) (fun z => exec_load68 (.tmp 3) rfl (w.heap.size) rfl _ _ _ _ _ ((HJ4.out).ext (ext_ext _ z))) ?_
    simp only [Act.put, List.setIfInBounds_toArray, List.set_cons_succ, List.set_cons_zero]
    refine gx rfl rfl rfl rfl (.agg (seRow ⟨num, N, fl, su, v7, v10⟩)) (fun z => exec_load68 (.tmp 10) rfl (g10) rfl _ _ _ _ _ ((HJ10.out).ext (ext_ext _ z))) ?_
    simp only [Act.put, List.setIfInBounds_toArray, List.set_cons_succ, List.set_cons_zero]
    refine gc rfl rfl rfl rfl 78 #[.agg (seRow ⟨num, N, sl, su, sv, gv⟩), .agg (seRow ⟨num, N, fl, su, v7, v10⟩)] (fun _ => by go_simp) (.bool false) (fun z => C3.out _ (ext_ext _ z)) ?_
    simp only [Act.put, List.setIfInBounds_toArray, List.set_cons_succ, List.set_cons_zero]
    refine gq rfl rfl rfl rfl (fun K hK => ?_); go_big_quiet_op; refine hK _ ?_; clear hK K
    refine gq rfl rfl rfl rfl (fun K hK => ?_); go_big_quiet_op; refine hK _ ?_; clear hK K
    refine gq rfl rfl rfl rfl (fun K hK => ?_); go_big_quiet_op; refine hK _ ?_; clear hK K
    refine gc rfl rfl rfl rfl 63 #[] (fun _ => by go_simp) (.bool true) (fun z => known8_any _) ?_
    simp only [Act.put, List.setIfInBounds_toArray, List.set_cons_succ, List.set_cons_zero]
    refine gq rfl rfl rfl rfl (fun K hK => ?_); go_big_quiet_op; refine hK _ ?_; clear hK K
    refine gq rfl rfl rfl rfl (fun K hK => ?_); go_big_quiet_op; refine hK _ ?_; clear hK K
    refine gm_end_at rfl [ ] rfl (fun xs z hk => ?_)
    clear hk
    simp only [fillM, Act.put, List.setIfInBounds_toArray, List.set_cons_succ, List.set_cons_zero]
    go_wp2
    go_ret
    exact ⟨rfl, HX7.out.trans (ext_ext _ z)⟩
theorem sflip_law (x : Se) (at' ot : Nat) (hat : at' ≤ 65535) (hot : ot ≤ 65535) (w : World) (hx : SeR w x) (hx1 : x.sl.length ≤ 140737488355328) (hx2 : x.su.length ≤ 4398046511104) :
    Calls Try.prog 27 #[x.v, .int .u16 (at' : Int), .int .u16 (ot : Int)] w fun e w' => e = .returned (.bool true) ∧ Ext w w' := by
  by_cases hn : 1000 < x.sl.length + 32 * x.su.length
  · exact sflip_big x at' ot w hx hx1 hx2 hn
  cases hr : rightB x.blk x.sl x.su with
  | false => exact sflip_not x at' ot w hx hx1 hx2 (by omega) hr
  | true =>
    by_cases h0 : x.blk = 0
    · exact sflip_none x at' ot w hx hx1 hx2 (by omega) hr h0
    · obtain ⟨N, hN, _⟩ := right_bounds hr
      obtain ⟨a, b, c, d, e, f⟩ := x
      simp only at hN h0 hr hn
      subst hN
      exact sflip_good a N c d e f at' ot hat hot w hx (by omega) hr (by omega)
end Go.Proofs.Ytapojpjmeadabaa
end

/- Adds: several texts in one. -/
import Derived.Test.YtapojpjmeadabaaZNumf
section
/- sum.Add, sum.Sub. -/
namespace Go.Proofs.Ytapojpjmeadabaa
open Go.RowKit
set_option linter.unusedVariables false
set_option linter.unusedSimpArgs false
attribute [local go_sem] lt_ext cell?_ext frozen?_ext shape?_ext

/-- A pointer to a block of noughts. -/
def NewR (B : Nat) (u : Value) (w : World) : Prop := ∃ g, u = .pointer (some ⟨g, 0, none⟩) ∧ Blw w g z64 ∧ B ≤ g
theorem NewR.ext {B : Nat} (u : Value) (w w' : World) (hx : Ext w w') (h : NewR B u w) : NewR B u w' := by
  obtain ⟨g, h1, h2, h3⟩ := h
  exact ⟨g, h1, h2.ext hx, h3⟩
theorem exec_alloc121 {o : Oper} {ρ : Operand → Value} (ho : o.op = .alloc 121) (w0 : World) (B : Nat) (hB : B ≤ w0.heap.size) (x : Grow w0) :
    ∃ g w', (execOp ρ o).run Try.prog (w0.ext x) = .ok (.value (.pointer (some ⟨g, 0, none⟩))) w' ∧ (w0.ext x).heap.size ≤ g ∧ g < w'.heap.size ∧ NewR B (.pointer (some ⟨g, 0, none⟩)) w' ∧ Ext (w0.ext x) w' := by
  refine ⟨(w0.ext x).heap.size, (w0.ext x).alloc (.cells (row64 z64) 121), ?_, Nat.le_refl _, by simp, ⟨_, rfl, heap_alloc_last _ _, Nat.le_trans hB (ext_ext w0 x).size⟩, (Ext.refl _).alloc _⟩
  unfold execOp
  simp only [ho, Instr.alloc, Sem.run_bind, zero121.1, Result.andThen_ok]
  rfl
set_option maxRecDepth 100000 in
set_option maxHeartbeats 1000000 in
theorem add_any (A B : List UInt8) (hA : A.length = 32) (hB : B.length = 32) (w : World) :
    Calls Try.prog 59 #[Dig A, Dig B] w fun e w' => e = .returned (Dig (addD A B)) ∧ Ext w w' := by
  have HA := Lib.hid hA
  have HB := Lib.hid hB
  clear hA hB
  obtain ⟨D, hD⟩ : ∃ D, addD A B = D := ⟨_, rfl⟩
  have HDl : Hid (D.length = 32) := Lib.hid (by rw [← hD]; exact addD_length _ _)
  have HD : Hid (∀ f c, AddI (spell A) (spell B) 4 f c → be (val f 4) 32 = D) := Lib.hid (fun f c h => by rw [← hD]; exact h.done HA.out HB.out)
  rw [hD]
  clear hD
  obtain ⟨wA, hwA⟩ : ∃ x, wd (spell A) = x := ⟨_, rfl⟩
  obtain ⟨wB, hwB⟩ : ∃ x, wd (spell B) = x := ⟨_, rfl⟩
  have HWA := Lib.hid hwA
  have HWB := Lib.hid hwB
  clear hwA hwB
  obtain ⟨⟨h0, h1, h2⟩, hx, hs⟩ := three_new w (.cells (row8 A) 27) (.cells (row8 B) 27) (.cells (row8 (Sha.zeros 32)) 27)
  go_enter Try.func59, Try.ntmps59
  go_wp2_with (refine wpl_alloc_agg rfl 27 rfl _ zero27.1 ?_)
  generalize ((w.alloc (.cells (row8 A) 27)).alloc (.cells (row8 B) 27)).alloc (.cells (row8 (Sha.zeros 32)) 27) = w0 at *
  have HP := Lib.hid (show Blk w0 w.heap.size 27 A from h0)
  have HQ := Lib.hid (show Blk w0 (w.heap.size + 1) 27 B from h1)
  have HR := Lib.hid (show Blk w0 (w.heap.size + 2) 27 (Sha.zeros 32) from h2)
  have HX := Lib.hid hx
  have HS : Hid (w0.heap.size = w.heap.size + 3) := Lib.hid hs
  clear h0 h1 h2 hx hs
  refine FF.wp_region_ft 6 [5, 6] (by kernel_rfl) (by kernel_rfl) ?_
  try simp only [Act.put, List.setIfInBounds_toArray, List.set_cons_succ, List.set_cons_zero]
  simp only [List.take_succ_cons, List.take_zero]
  refine FF.fx rfl rfl rfl rfl rfl (Dig A) (fun x => exec_load27 (.tmp 2) rfl w.heap.size rfl A HA.out _ (Blk.ext HP.out (ext_ext w0 x))) ?_
  simp only [Act.put, List.setIfInBounds_toArray, List.set_cons_succ, List.set_cons_zero]
  refine FF.fc rfl rfl rfl rfl rfl 99 #[Dig A] (fun _ => by go_simp) (Wd4 wA) (fun x => by have h := words_of A HA.out (w0.ext x); rw [HWA.out] at h; exact h) ?_
  simp only [Act.put, List.setIfInBounds_toArray, List.set_cons_succ, List.set_cons_zero]
  refine FF.fx rfl rfl rfl rfl rfl (Dig B) (fun x => exec_load27 (.tmp 3) rfl (w.heap.size + 1) rfl B HB.out _ (Blk.ext HQ.out (ext_ext w0 x))) ?_
  simp only [Act.put, List.setIfInBounds_toArray, List.set_cons_succ, List.set_cons_zero]
  refine FF.fc rfl rfl rfl rfl rfl 99 #[Dig B] (fun _ => by go_simp) (Wd4 wB) (fun x => by have h := words_of B HB.out (w0.ext x); rw [HWB.out] at h; exact h) ?_
  simp only [Act.put, List.setIfInBounds_toArray, List.set_cons_succ, List.set_cons_zero]
  refine FF.fa rfl rfl rfl rfl 5 rfl (NewR w0.heap.size) NewR.ext (fun x => exec_alloc121 rfl w0 _ (Nat.le_refl _) x) ?_
  simp only [Act.put, List.setIfInBounds_toArray, List.set_cons_succ, List.set_cons_zero]
  refine FF.fa rfl rfl rfl rfl 6 rfl (NewR w0.heap.size) NewR.ext (fun x => exec_alloc121 rfl w0 _ (Nat.le_refl _) x) ?_
  simp only [Act.put, List.setIfInBounds_toArray, List.set_cons_succ, List.set_cons_zero]
  refine FF.fend rfl [(6, NewR w0.heap.size), (5, NewR w0.heap.size)] rfl (fun xs x hk hap => ?_)
  have h5 := hk 5 (by simp) _ rfl
  have h6 := hk 6 (by simp) _ rfl
  have hne := hap 5 (by simp) 6 (by simp) (by decide) (by simp) (by simp) rfl rfl
  clear hk hap
  simp only [fillM, Act.put, List.setIfInBounds_toArray, List.set_cons_succ, List.set_cons_zero]
  simp only [List.drop_succ_cons, List.drop_zero]
  obtain ⟨g5, e5, hb5, hl5⟩ := h5
  obtain ⟨g6, e6, hb6, hl6⟩ := h6
  rw [e5, e6] at hne ⊢
  have hne : g5 ≠ g6 := fun e => hne (by rw [e])
  clear e5 e6 xs
  have hx := ext_ext w0 x
  have hR1 := Blk.ext HR.out hx
  generalize w0.ext x = w1 at *
  have hS := HS.out
  refine wpl_store121 rfl _ _ rfl g5 wA z64 rfl rfl hb5 ?_
  intro w2 h2 hu2
  simp only [Act.put, List.setIfInBounds_toArray, List.set_cons_succ, List.set_cons_zero]
  refine wpl_store121 rfl _ _ rfl g6 wB z64 rfl rfl ((hu2.old hb6.lt (by omega)).trans hb6) ?_
  intro w3 h3 hu3
  simp only [Act.put, List.setIfInBounds_toArray, List.set_cons_succ, List.set_cons_zero]
  have HA3 : Hid (Blw w3 g5 wA) := Lib.hid ((hu3.old h2.lt (by omega)).trans h2)
  have HB3 : Hid (Blw w3 g6 wB) := Lib.hid h3
  have HR3 : Hid (Blk w3 (w.heap.size + 2) 27 (Sha.zeros 32)) := Lib.hid ((hu3.old (Nat.lt_of_lt_of_le hR1.lt hu2.size) (by omega)).trans ((hu2.old hR1.lt (by omega)).trans hR1))
  have HX3 : Hid (Ext w w3) := Lib.hid (((HX.out.trans hx).upd_new hu2 (by omega)).upd_new hu3 (by omega))
  have hL5 : w.heap.size + 3 ≤ g5 := by omega
  have hL6 : w.heap.size + 3 ≤ g6 := by omega
  clear h2 h3 hu2 hu3 hR1 hx hb5 hb6 hl5 hl6 HP HQ HR HX HS hS w1 w2 x w0
  go_wp2
  go_loopw [13, 7, 8] (fun i c q wr => ∃ (k cc : Nat) (f : Nat → Nat), k ≤ 4 ∧ i = .int .i64 k ∧ c = .int .u64 (cc : Int) ∧ AddI (spell A) (spell B) k f cc ∧ Blw wr g5 f ∧ Blw wr g6 wB ∧ Blk wr (w.heap.size + 2) 27 (Sha.zeros 32) ∧ Ext w wr) (fun i _ _ _ => 4 - (intOf i).toNat)
  case atStart => exact ⟨0, 0, wA, by omega, rfl, rfl, by rw [← HWA.out]; exact AddI.zero _ _, HA3.out, HB3.out, HR3.out, HX3.out⟩
  case round =>
    obtain ⟨k, cc, f, hk, rfl, rfl, hI, hA5, hB6, hR, hx⟩ := hrel
    clear HA3 HB3 HR3 HX3 w3
    have HI := Lib.hid hI
    have HA5 := Lib.hid hA5
    have HB6 := Lib.hid hB6
    have HRR := Lib.hid hR
    have HX := Lib.hid hx
    have hl5 := hA5.lt
    have hl6 := hB6.lt
    clear hI hA5 hB6 hR hx
    by_cases hlt : k < 4
    · rcases below4 k hlt with rfl|rfl|rfl|rfl
      · have hc5 := HA5.out.cell 0 (by omega)
        have hc6 := HB6.out.cell 0 (by omega)
        have hf5 := HA5.out.frozen 0
        have hI := HI.out.next (k := 0) (by omega)
        have hle := HI.out.le
        obtain ⟨x, hx⟩ : ∃ x, f 0 = x := ⟨_, rfl⟩
        obtain ⟨y, hy⟩ : ∃ y, wB 0 = y := ⟨_, rfl⟩
        rw [hx] at hc5
        rw [hy] at hc6
        rw [HWB.out, hx, hy] at hI
        have hcall := add64_any x y cc hle
        obtain ⟨s, hs⟩ : ∃ s, ((x+y+cc)%18446744073709551616) = s := ⟨_, rfl⟩
        obtain ⟨c2, hc2⟩ : ∃ c2, ((x+y+cc)/18446744073709551616) = c2 := ⟨_, rfl⟩
        rw [hs, hc2] at hI
        rw [hs, hc2] at hcall
        have HI2 := Lib.hid hI
        have HCALL := Lib.hid hcall
        clear hI hle hx hy hs hc2 hcall
        go_wp2
        refine FG.wp_region_s 13 (FG.two wr (fun w' => ∃ z : Grow wr, w' = (wr.ext z).setCell ⟨g5, 0, none⟩ (W64 s))) (Ext.refl wr).drew (by kernel_rfl) (by kernel_rfl) ?_
        try simp only [Act.put, List.setIfInBounds_toArray, List.set_cons_succ, List.set_cons_zero]
        refine FG.sp rfl rfl (.int .i64 0) (fun _ => by go_simp) ?_
        simp only [Act.put, List.setIfInBounds_toArray, List.set_cons_succ, List.set_cons_zero]
        refine FG.sp rfl rfl (.int .i64 0) (fun _ => by go_simp) ?_
        simp only [Act.put, List.setIfInBounds_toArray, List.set_cons_succ, List.set_cons_zero]
        refine FG.sp rfl rfl (.pointer (some ⟨g5, 0, none⟩)) (fun _ => by go_simp) ?_
        simp only [Act.put, List.setIfInBounds_toArray, List.set_cons_succ, List.set_cons_zero]
        refine FG.sq rfl rfl (by kernel_rfl) (W64 x) (fun z => by go_simp) ?_
        simp only [Act.put, List.setIfInBounds_toArray, List.set_cons_succ, List.set_cons_zero]
        refine FG.sp rfl rfl (.int .i64 0) (fun _ => by go_simp) ?_
        simp only [Act.put, List.setIfInBounds_toArray, List.set_cons_succ, List.set_cons_zero]
        refine FG.sp rfl rfl (.pointer (some ⟨g6, 0, none⟩)) (fun _ => by go_simp) ?_
        simp only [Act.put, List.setIfInBounds_toArray, List.set_cons_succ, List.set_cons_zero]
        refine FG.sq rfl rfl (by kernel_rfl) (W64 y) (fun z => by go_simp) ?_
        simp only [Act.put, List.setIfInBounds_toArray, List.set_cons_succ, List.set_cons_zero]
        refine FG.sp rfl rfl (.int .u64 (cc : Int)) (fun _ => by go_simp) ?_
        simp only [Act.put, List.setIfInBounds_toArray, List.set_cons_succ, List.set_cons_zero]
        refine FG.sp rfl rfl (.tuple #[W64 s, W64 c2]) (fun w => by go_simp; exact HCALL.out w) ?_
        simp only [Act.put, List.setIfInBounds_toArray, List.set_cons_succ, List.set_cons_zero]
        refine FG.sp rfl rfl (.tuple #[W64 s, W64 c2]) (fun w => by go_simp) ?_
        simp only [Act.put, List.setIfInBounds_toArray, List.set_cons_succ, List.set_cons_zero]
        refine FG.sp rfl rfl (W64 s) (fun w => by go_simp) ?_
        simp only [Act.put, List.setIfInBounds_toArray, List.set_cons_succ, List.set_cons_zero]
        refine FG.sp rfl rfl (W64 c2) (fun w => by go_simp) ?_
        simp only [Act.put, List.setIfInBounds_toArray, List.set_cons_succ, List.set_cons_zero]
        refine FG.sp rfl rfl (.pointer (some ⟨g5, 0, none⟩)) (fun _ => by go_simp) ?_
        simp only [Act.put, List.setIfInBounds_toArray, List.set_cons_succ, List.set_cons_zero]
        refine FG.ss rfl rfl (fun z => ⟨_, (by go_simp), z, rfl⟩) ?_
        simp only [Act.put, List.setIfInBounds_toArray, List.set_cons_succ, List.set_cons_zero]
        refine FG.sp rfl rfl (W64 c2) (fun w => by go_simp) ?_
        simp only [Act.put, List.setIfInBounds_toArray, List.set_cons_succ, List.set_cons_zero]
        rintro w' ⟨z, rfl⟩
        have hxz : Ext wr (wr.ext z) := ext_ext wr z
        generalize wr.ext z = wz at *
        go_wp2
        go_roundw
        case rel => exact ⟨0 + 1, c2, setW f 0 s, by omega, by go_num, rfl, HI2.out, (HA5.out.ext hxz).set 0 s (by omega), other_cell (HB6.out.ext hxz) (Ne.symm hne), other_cell (Blk.ext HRR.out hxz) (by omega), Ext.setCell_new (HX.out.trans hxz) trivial (Nat.le_trans (Nat.le_add_right _ 3) hL5)⟩
        case measure => simp [intOf]
      · have hc5 := HA5.out.cell 1 (by omega)
        have hc6 := HB6.out.cell 1 (by omega)
        have hf5 := HA5.out.frozen 1
        have hI := HI.out.next (k := 1) (by omega)
        have hle := HI.out.le
        obtain ⟨x, hx⟩ : ∃ x, f 1 = x := ⟨_, rfl⟩
        obtain ⟨y, hy⟩ : ∃ y, wB 1 = y := ⟨_, rfl⟩
        rw [hx] at hc5
        rw [hy] at hc6
        rw [HWB.out, hx, hy] at hI
        have hcall := add64_any x y cc hle
        obtain ⟨s, hs⟩ : ∃ s, ((x+y+cc)%18446744073709551616) = s := ⟨_, rfl⟩
        obtain ⟨c2, hc2⟩ : ∃ c2, ((x+y+cc)/18446744073709551616) = c2 := ⟨_, rfl⟩
        rw [hs, hc2] at hI
        rw [hs, hc2] at hcall
        have HI2 := Lib.hid hI
        have HCALL := Lib.hid hcall
        clear hI hle hx hy hs hc2 hcall
        go_wp2
        refine FG.wp_region_s 13 (FG.two wr (fun w' => ∃ z : Grow wr, w' = (wr.ext z).setCell ⟨g5, 1, none⟩ (W64 s))) (Ext.refl wr).drew (by kernel_rfl) (by kernel_rfl) ?_
        try simp only [Act.put, List.setIfInBounds_toArray, List.set_cons_succ, List.set_cons_zero]
        refine FG.sp rfl rfl (.int .i64 1) (fun _ => by go_simp) ?_
        simp only [Act.put, List.setIfInBounds_toArray, List.set_cons_succ, List.set_cons_zero]
        refine FG.sp rfl rfl (.int .i64 1) (fun _ => by go_simp) ?_
        simp only [Act.put, List.setIfInBounds_toArray, List.set_cons_succ, List.set_cons_zero]
        refine FG.sp rfl rfl (.pointer (some ⟨g5, 1, none⟩)) (fun _ => by go_simp) ?_
        simp only [Act.put, List.setIfInBounds_toArray, List.set_cons_succ, List.set_cons_zero]
        refine FG.sq rfl rfl (by kernel_rfl) (W64 x) (fun z => by go_simp) ?_
        simp only [Act.put, List.setIfInBounds_toArray, List.set_cons_succ, List.set_cons_zero]
        refine FG.sp rfl rfl (.int .i64 1) (fun _ => by go_simp) ?_
        simp only [Act.put, List.setIfInBounds_toArray, List.set_cons_succ, List.set_cons_zero]
        refine FG.sp rfl rfl (.pointer (some ⟨g6, 1, none⟩)) (fun _ => by go_simp) ?_
        simp only [Act.put, List.setIfInBounds_toArray, List.set_cons_succ, List.set_cons_zero]
        refine FG.sq rfl rfl (by kernel_rfl) (W64 y) (fun z => by go_simp) ?_
        simp only [Act.put, List.setIfInBounds_toArray, List.set_cons_succ, List.set_cons_zero]
        refine FG.sp rfl rfl (.int .u64 (cc : Int)) (fun _ => by go_simp) ?_
        simp only [Act.put, List.setIfInBounds_toArray, List.set_cons_succ, List.set_cons_zero]
        refine FG.sp rfl rfl (.tuple #[W64 s, W64 c2]) (fun w => by go_simp; exact HCALL.out w) ?_
        simp only [Act.put, List.setIfInBounds_toArray, List.set_cons_succ, List.set_cons_zero]
        refine FG.sp rfl rfl (.tuple #[W64 s, W64 c2]) (fun w => by go_simp) ?_
        simp only [Act.put, List.setIfInBounds_toArray, List.set_cons_succ, List.set_cons_zero]
        refine FG.sp rfl rfl (W64 s) (fun w => by go_simp) ?_
        simp only [Act.put, List.setIfInBounds_toArray, List.set_cons_succ, List.set_cons_zero]
        refine FG.sp rfl rfl (W64 c2) (fun w => by go_simp) ?_
        simp only [Act.put, List.setIfInBounds_toArray, List.set_cons_succ, List.set_cons_zero]
        refine FG.sp rfl rfl (.pointer (some ⟨g5, 1, none⟩)) (fun _ => by go_simp) ?_
        simp only [Act.put, List.setIfInBounds_toArray, List.set_cons_succ, List.set_cons_zero]
        refine FG.ss rfl rfl (fun z => ⟨_, (by go_simp), z, rfl⟩) ?_
        simp only [Act.put, List.setIfInBounds_toArray, List.set_cons_succ, List.set_cons_zero]
        refine FG.sp rfl rfl (W64 c2) (fun w => by go_simp) ?_
        simp only [Act.put, List.setIfInBounds_toArray, List.set_cons_succ, List.set_cons_zero]
        rintro w' ⟨z, rfl⟩
        have hxz : Ext wr (wr.ext z) := ext_ext wr z
        generalize wr.ext z = wz at *
        go_wp2
        go_roundw
        case rel => exact ⟨1 + 1, c2, setW f 1 s, by omega, by go_num, rfl, HI2.out, (HA5.out.ext hxz).set 1 s (by omega), other_cell (HB6.out.ext hxz) (Ne.symm hne), other_cell (Blk.ext HRR.out hxz) (by omega), Ext.setCell_new (HX.out.trans hxz) trivial (Nat.le_trans (Nat.le_add_right _ 3) hL5)⟩
        case measure => simp [intOf]
      · have hc5 := HA5.out.cell 2 (by omega)
        have hc6 := HB6.out.cell 2 (by omega)
        have hf5 := HA5.out.frozen 2
        have hI := HI.out.next (k := 2) (by omega)
        have hle := HI.out.le
        obtain ⟨x, hx⟩ : ∃ x, f 2 = x := ⟨_, rfl⟩
        obtain ⟨y, hy⟩ : ∃ y, wB 2 = y := ⟨_, rfl⟩
        rw [hx] at hc5
        rw [hy] at hc6
        rw [HWB.out, hx, hy] at hI
        have hcall := add64_any x y cc hle
        obtain ⟨s, hs⟩ : ∃ s, ((x+y+cc)%18446744073709551616) = s := ⟨_, rfl⟩
        obtain ⟨c2, hc2⟩ : ∃ c2, ((x+y+cc)/18446744073709551616) = c2 := ⟨_, rfl⟩
        rw [hs, hc2] at hI
        rw [hs, hc2] at hcall
        have HI2 := Lib.hid hI
        have HCALL := Lib.hid hcall
        clear hI hle hx hy hs hc2 hcall
        go_wp2
        refine FG.wp_region_s 13 (FG.two wr (fun w' => ∃ z : Grow wr, w' = (wr.ext z).setCell ⟨g5, 2, none⟩ (W64 s))) (Ext.refl wr).drew (by kernel_rfl) (by kernel_rfl) ?_
        try simp only [Act.put, List.setIfInBounds_toArray, List.set_cons_succ, List.set_cons_zero]
        refine FG.sp rfl rfl (.int .i64 2) (fun _ => by go_simp) ?_
        simp only [Act.put, List.setIfInBounds_toArray, List.set_cons_succ, List.set_cons_zero]
        refine FG.sp rfl rfl (.int .i64 2) (fun _ => by go_simp) ?_
        simp only [Act.put, List.setIfInBounds_toArray, List.set_cons_succ, List.set_cons_zero]
        refine FG.sp rfl rfl (.pointer (some ⟨g5, 2, none⟩)) (fun _ => by go_simp) ?_
        simp only [Act.put, List.setIfInBounds_toArray, List.set_cons_succ, List.set_cons_zero]
        refine FG.sq rfl rfl (by kernel_rfl) (W64 x) (fun z => by go_simp) ?_
        simp only [Act.put, List.setIfInBounds_toArray, List.set_cons_succ, List.set_cons_zero]
        refine FG.sp rfl rfl (.int .i64 2) (fun _ => by go_simp) ?_
        simp only [Act.put, List.setIfInBounds_toArray, List.set_cons_succ, List.set_cons_zero]
        refine FG.sp rfl rfl (.pointer (some ⟨g6, 2, none⟩)) (fun _ => by go_simp) ?_
        simp only [Act.put, List.setIfInBounds_toArray, List.set_cons_succ, List.set_cons_zero]
        refine FG.sq rfl rfl (by kernel_rfl) (W64 y) (fun z => by go_simp) ?_
        simp only [Act.put, List.setIfInBounds_toArray, List.set_cons_succ, List.set_cons_zero]
        refine FG.sp rfl rfl (.int .u64 (cc : Int)) (fun _ => by go_simp) ?_
        simp only [Act.put, List.setIfInBounds_toArray, List.set_cons_succ, List.set_cons_zero]
        refine FG.sp rfl rfl (.tuple #[W64 s, W64 c2]) (fun w => by go_simp; exact HCALL.out w) ?_
        simp only [Act.put, List.setIfInBounds_toArray, List.set_cons_succ, List.set_cons_zero]
        refine FG.sp rfl rfl (.tuple #[W64 s, W64 c2]) (fun w => by go_simp) ?_
        simp only [Act.put, List.setIfInBounds_toArray, List.set_cons_succ, List.set_cons_zero]
        refine FG.sp rfl rfl (W64 s) (fun w => by go_simp) ?_
        simp only [Act.put, List.setIfInBounds_toArray, List.set_cons_succ, List.set_cons_zero]
        refine FG.sp rfl rfl (W64 c2) (fun w => by go_simp) ?_
        simp only [Act.put, List.setIfInBounds_toArray, List.set_cons_succ, List.set_cons_zero]
        refine FG.sp rfl rfl (.pointer (some ⟨g5, 2, none⟩)) (fun _ => by go_simp) ?_
        simp only [Act.put, List.setIfInBounds_toArray, List.set_cons_succ, List.set_cons_zero]
        refine FG.ss rfl rfl (fun z => ⟨_, (by go_simp), z, rfl⟩) ?_
        simp only [Act.put, List.setIfInBounds_toArray, List.set_cons_succ, List.set_cons_zero]
        refine FG.sp rfl rfl (W64 c2) (fun w => by go_simp) ?_
        simp only [Act.put, List.setIfInBounds_toArray, List.set_cons_succ, List.set_cons_zero]
        rintro w' ⟨z, rfl⟩
        have hxz : Ext wr (wr.ext z) := ext_ext wr z
        generalize wr.ext z = wz at *
        go_wp2
        go_roundw
        case rel => exact ⟨2 + 1, c2, setW f 2 s, by omega, by go_num, rfl, HI2.out, (HA5.out.ext hxz).set 2 s (by omega), other_cell (HB6.out.ext hxz) (Ne.symm hne), other_cell (Blk.ext HRR.out hxz) (by omega), Ext.setCell_new (HX.out.trans hxz) trivial (Nat.le_trans (Nat.le_add_right _ 3) hL5)⟩
        case measure => simp [intOf]
      · have hc5 := HA5.out.cell 3 (by omega)
        have hc6 := HB6.out.cell 3 (by omega)
        have hf5 := HA5.out.frozen 3
        have hI := HI.out.next (k := 3) (by omega)
        have hle := HI.out.le
        obtain ⟨x, hx⟩ : ∃ x, f 3 = x := ⟨_, rfl⟩
        obtain ⟨y, hy⟩ : ∃ y, wB 3 = y := ⟨_, rfl⟩
        rw [hx] at hc5
        rw [hy] at hc6
        rw [HWB.out, hx, hy] at hI
        have hcall := add64_any x y cc hle
        obtain ⟨s, hs⟩ : ∃ s, ((x+y+cc)%18446744073709551616) = s := ⟨_, rfl⟩
        obtain ⟨c2, hc2⟩ : ∃ c2, ((x+y+cc)/18446744073709551616) = c2 := ⟨_, rfl⟩
        rw [hs, hc2] at hI
        rw [hs, hc2] at hcall
        have HI2 := Lib.hid hI
        have HCALL := Lib.hid hcall
        clear hI hle hx hy hs hc2 hcall
        go_wp2
        refine FG.wp_region_s 13 (FG.two wr (fun w' => ∃ z : Grow wr, w' = (wr.ext z).setCell ⟨g5, 3, none⟩ (W64 s))) (Ext.refl wr).drew (by kernel_rfl) (by kernel_rfl) ?_
        try simp only [Act.put, List.setIfInBounds_toArray, List.set_cons_succ, List.set_cons_zero]
        refine FG.sp rfl rfl (.int .i64 3) (fun _ => by go_simp) ?_
        simp only [Act.put, List.setIfInBounds_toArray, List.set_cons_succ, List.set_cons_zero]
        refine FG.sp rfl rfl (.int .i64 3) (fun _ => by go_simp) ?_
        simp only [Act.put, List.setIfInBounds_toArray, List.set_cons_succ, List.set_cons_zero]
        refine FG.sp rfl rfl (.pointer (some ⟨g5, 3, none⟩)) (fun _ => by go_simp) ?_
        simp only [Act.put, List.setIfInBounds_toArray, List.set_cons_succ, List.set_cons_zero]
        refine FG.sq rfl rfl (by kernel_rfl) (W64 x) (fun z => by go_simp) ?_
        simp only [Act.put, List.setIfInBounds_toArray, List.set_cons_succ, List.set_cons_zero]
        refine FG.sp rfl rfl (.int .i64 3) (fun _ => by go_simp) ?_
        simp only [Act.put, List.setIfInBounds_toArray, List.set_cons_succ, List.set_cons_zero]
        refine FG.sp rfl rfl (.pointer (some ⟨g6, 3, none⟩)) (fun _ => by go_simp) ?_
        simp only [Act.put, List.setIfInBounds_toArray, List.set_cons_succ, List.set_cons_zero]
        refine FG.sq rfl rfl (by kernel_rfl) (W64 y) (fun z => by go_simp) ?_
        simp only [Act.put, List.setIfInBounds_toArray, List.set_cons_succ, List.set_cons_zero]
        refine FG.sp rfl rfl (.int .u64 (cc : Int)) (fun _ => by go_simp) ?_
        simp only [Act.put, List.setIfInBounds_toArray, List.set_cons_succ, List.set_cons_zero]
        refine FG.sp rfl rfl (.tuple #[W64 s, W64 c2]) (fun w => by go_simp; exact HCALL.out w) ?_
        simp only [Act.put, List.setIfInBounds_toArray, List.set_cons_succ, List.set_cons_zero]
        refine FG.sp rfl rfl (.tuple #[W64 s, W64 c2]) (fun w => by go_simp) ?_
        simp only [Act.put, List.setIfInBounds_toArray, List.set_cons_succ, List.set_cons_zero]
        refine FG.sp rfl rfl (W64 s) (fun w => by go_simp) ?_
        simp only [Act.put, List.setIfInBounds_toArray, List.set_cons_succ, List.set_cons_zero]
        refine FG.sp rfl rfl (W64 c2) (fun w => by go_simp) ?_
        simp only [Act.put, List.setIfInBounds_toArray, List.set_cons_succ, List.set_cons_zero]
        refine FG.sp rfl rfl (.pointer (some ⟨g5, 3, none⟩)) (fun _ => by go_simp) ?_
        simp only [Act.put, List.setIfInBounds_toArray, List.set_cons_succ, List.set_cons_zero]
        refine FG.ss rfl rfl (fun z => ⟨_, (by go_simp), z, rfl⟩) ?_
        simp only [Act.put, List.setIfInBounds_toArray, List.set_cons_succ, List.set_cons_zero]
        refine FG.sp rfl rfl (W64 c2) (fun w => by go_simp) ?_
        simp only [Act.put, List.setIfInBounds_toArray, List.set_cons_succ, List.set_cons_zero]
        rintro w' ⟨z, rfl⟩
        have hxz : Ext wr (wr.ext z) := ext_ext wr z
        generalize wr.ext z = wz at *
        go_wp2
        go_roundw
        case rel => exact ⟨3 + 1, c2, setW f 3 s, by omega, by go_num, rfl, HI2.out, (HA5.out.ext hxz).set 3 s (by omega), other_cell (HB6.out.ext hxz) (Ne.symm hne), other_cell (Blk.ext HRR.out hxz) (by omega), Ext.setCell_new (HX.out.trans hxz) trivial (Nat.le_trans (Nat.le_add_right _ 3) hL5)⟩
        case measure => simp [intOf]
    · obtain rfl : k = 4 := by omega
      have HBE : Hid (be (val f 4) 32 = D) := Lib.hid (HD.out f cc HI.out)
      go_wp2_with (first | (refine wpl_load121 rfl _ rfl g5 rfl f HA5.out ?_) | (go_at_call 101; go_must (refine (digest_of f HI.out.lt _).mono ?_; rintro e w4 ⟨rfl, hx4⟩; rw [HBE.out]; have HX4 := Lib.hid (HX.out.trans hx4); have HR4 := Lib.hid (Blk.ext HRR.out hx4); clear hx4)) | (refine wpl_store27 rfl _ _ rfl (w.heap.size + 2) D (Sha.zeros 32) rfl rfl HDl.out (by simp [Sha.zeros]) HR4.out ?_; intro w8 h8 hu8; have H8 := Lib.hid h8; have HX8 := Lib.hid (HX4.out.upd_new hu8 (by omega)); clear h8 hu8))
      exact ret27 rfl (w.heap.size + 2) D HDl.out rfl H8.out rfl ⟨rfl, HX8.out⟩
set_option maxRecDepth 100000 in
set_option maxHeartbeats 1000000 in
theorem sub_any (A B : List UInt8) (hA : A.length = 32) (hB : B.length = 32) (w : World) :
    Calls Try.prog 60 #[Dig A, Dig B] w fun e w' => e = .returned (Dig (subD A B)) ∧ Ext w w' := by
  have HA := Lib.hid hA
  have HB := Lib.hid hB
  clear hA hB
  obtain ⟨D, hD⟩ : ∃ D, subD A B = D := ⟨_, rfl⟩
  have HDl : Hid (D.length = 32) := Lib.hid (by rw [← hD]; exact subD_length _ _)
  have HD : Hid (∀ f c, SubI (spell A) (spell B) 4 f c → be (val f 4) 32 = D) := Lib.hid (fun f c h => by rw [← hD]; exact h.done HA.out HB.out)
  rw [hD]
  clear hD
  obtain ⟨wA, hwA⟩ : ∃ x, wd (spell A) = x := ⟨_, rfl⟩
  obtain ⟨wB, hwB⟩ : ∃ x, wd (spell B) = x := ⟨_, rfl⟩
  have HWA := Lib.hid hwA
  have HWB := Lib.hid hwB
  clear hwA hwB
  obtain ⟨⟨h0, h1, h2⟩, hx, hs⟩ := three_new w (.cells (row8 A) 27) (.cells (row8 B) 27) (.cells (row8 (Sha.zeros 32)) 27)
  go_enter Try.func60, Try.ntmps60
  go_wp2_with (refine wpl_alloc_agg rfl 27 rfl _ zero27.1 ?_)
  generalize ((w.alloc (.cells (row8 A) 27)).alloc (.cells (row8 B) 27)).alloc (.cells (row8 (Sha.zeros 32)) 27) = w0 at *
  have HP := Lib.hid (show Blk w0 w.heap.size 27 A from h0)
  have HQ := Lib.hid (show Blk w0 (w.heap.size + 1) 27 B from h1)
  have HR := Lib.hid (show Blk w0 (w.heap.size + 2) 27 (Sha.zeros 32) from h2)
  have HX := Lib.hid hx
  have HS : Hid (w0.heap.size = w.heap.size + 3) := Lib.hid hs
  clear h0 h1 h2 hx hs
  refine FF.wp_region_ft 6 [5, 6] (by kernel_rfl) (by kernel_rfl) ?_
  try simp only [Act.put, List.setIfInBounds_toArray, List.set_cons_succ, List.set_cons_zero]
  simp only [List.take_succ_cons, List.take_zero]
  refine FF.fx rfl rfl rfl rfl rfl (Dig A) (fun x => exec_load27 (.tmp 2) rfl w.heap.size rfl A HA.out _ (Blk.ext HP.out (ext_ext w0 x))) ?_
  simp only [Act.put, List.setIfInBounds_toArray, List.set_cons_succ, List.set_cons_zero]
  refine FF.fc rfl rfl rfl rfl rfl 99 #[Dig A] (fun _ => by go_simp) (Wd4 wA) (fun x => by have h := words_of A HA.out (w0.ext x); rw [HWA.out] at h; exact h) ?_
  simp only [Act.put, List.setIfInBounds_toArray, List.set_cons_succ, List.set_cons_zero]
  refine FF.fx rfl rfl rfl rfl rfl (Dig B) (fun x => exec_load27 (.tmp 3) rfl (w.heap.size + 1) rfl B HB.out _ (Blk.ext HQ.out (ext_ext w0 x))) ?_
  simp only [Act.put, List.setIfInBounds_toArray, List.set_cons_succ, List.set_cons_zero]
  refine FF.fc rfl rfl rfl rfl rfl 99 #[Dig B] (fun _ => by go_simp) (Wd4 wB) (fun x => by have h := words_of B HB.out (w0.ext x); rw [HWB.out] at h; exact h) ?_
  simp only [Act.put, List.setIfInBounds_toArray, List.set_cons_succ, List.set_cons_zero]
  refine FF.fa rfl rfl rfl rfl 5 rfl (NewR w0.heap.size) NewR.ext (fun x => exec_alloc121 rfl w0 _ (Nat.le_refl _) x) ?_
  simp only [Act.put, List.setIfInBounds_toArray, List.set_cons_succ, List.set_cons_zero]
  refine FF.fa rfl rfl rfl rfl 6 rfl (NewR w0.heap.size) NewR.ext (fun x => exec_alloc121 rfl w0 _ (Nat.le_refl _) x) ?_
  simp only [Act.put, List.setIfInBounds_toArray, List.set_cons_succ, List.set_cons_zero]
  refine FF.fend rfl [(6, NewR w0.heap.size), (5, NewR w0.heap.size)] rfl (fun xs x hk hap => ?_)
  have h5 := hk 5 (by simp) _ rfl
  have h6 := hk 6 (by simp) _ rfl
  have hne := hap 5 (by simp) 6 (by simp) (by decide) (by simp) (by simp) rfl rfl
  clear hk hap
  simp only [fillM, Act.put, List.setIfInBounds_toArray, List.set_cons_succ, List.set_cons_zero]
  simp only [List.drop_succ_cons, List.drop_zero]
  obtain ⟨g5, e5, hb5, hl5⟩ := h5
  obtain ⟨g6, e6, hb6, hl6⟩ := h6
  rw [e5, e6] at hne ⊢
  have hne : g5 ≠ g6 := fun e => hne (by rw [e])
  clear e5 e6 xs
  have hx := ext_ext w0 x
  have hR1 := Blk.ext HR.out hx
  generalize w0.ext x = w1 at *
  have hS := HS.out
  refine wpl_store121 rfl _ _ rfl g5 wA z64 rfl rfl hb5 ?_
  intro w2 h2 hu2
  simp only [Act.put, List.setIfInBounds_toArray, List.set_cons_succ, List.set_cons_zero]
  refine wpl_store121 rfl _ _ rfl g6 wB z64 rfl rfl ((hu2.old hb6.lt (by omega)).trans hb6) ?_
  intro w3 h3 hu3
  simp only [Act.put, List.setIfInBounds_toArray, List.set_cons_succ, List.set_cons_zero]
  have HA3 : Hid (Blw w3 g5 wA) := Lib.hid ((hu3.old h2.lt (by omega)).trans h2)
  have HB3 : Hid (Blw w3 g6 wB) := Lib.hid h3
  have HR3 : Hid (Blk w3 (w.heap.size + 2) 27 (Sha.zeros 32)) := Lib.hid ((hu3.old (Nat.lt_of_lt_of_le hR1.lt hu2.size) (by omega)).trans ((hu2.old hR1.lt (by omega)).trans hR1))
  have HX3 : Hid (Ext w w3) := Lib.hid (((HX.out.trans hx).upd_new hu2 (by omega)).upd_new hu3 (by omega))
  have hL5 : w.heap.size + 3 ≤ g5 := by omega
  have hL6 : w.heap.size + 3 ≤ g6 := by omega
  clear h2 h3 hu2 hu3 hR1 hx hb5 hb6 hl5 hl6 HP HQ HR HX HS hS w1 w2 x w0
  go_wp2
  go_loopw [13, 7, 8] (fun i c q wr => ∃ (k cc : Nat) (f : Nat → Nat), k ≤ 4 ∧ i = .int .i64 k ∧ c = .int .u64 (cc : Int) ∧ SubI (spell A) (spell B) k f cc ∧ Blw wr g5 f ∧ Blw wr g6 wB ∧ Blk wr (w.heap.size + 2) 27 (Sha.zeros 32) ∧ Ext w wr) (fun i _ _ _ => 4 - (intOf i).toNat)
  case atStart => exact ⟨0, 0, wA, by omega, rfl, rfl, by rw [← HWA.out]; exact SubI.zero _ _, HA3.out, HB3.out, HR3.out, HX3.out⟩
  case round =>
    obtain ⟨k, cc, f, hk, rfl, rfl, hI, hA5, hB6, hR, hx⟩ := hrel
    clear HA3 HB3 HR3 HX3 w3
    have HI := Lib.hid hI
    have HA5 := Lib.hid hA5
    have HB6 := Lib.hid hB6
    have HRR := Lib.hid hR
    have HX := Lib.hid hx
    have hl5 := hA5.lt
    have hl6 := hB6.lt
    clear hI hA5 hB6 hR hx
    by_cases hlt : k < 4
    · rcases below4 k hlt with rfl|rfl|rfl|rfl
      · have hc5 := HA5.out.cell 0 (by omega)
        have hc6 := HB6.out.cell 0 (by omega)
        have hf5 := HA5.out.frozen 0
        have hI := HI.out.next (k := 0) (by omega)
        have hle := HI.out.le
        obtain ⟨x, hx⟩ : ∃ x, f 0 = x := ⟨_, rfl⟩
        obtain ⟨y, hy⟩ : ∃ y, wB 0 = y := ⟨_, rfl⟩
        rw [hx] at hc5
        rw [hy] at hc6
        rw [HWB.out, hx, hy] at hI
        have hcall := sub64_any x y cc hle
        obtain ⟨s, hs⟩ : ∃ s, ((x+18446744073709551616-y-cc)%18446744073709551616) = s := ⟨_, rfl⟩
        obtain ⟨c2, hc2⟩ : ∃ c2, (if x<y+cc then 1 else 0) = c2 := ⟨_, rfl⟩
        rw [hs, hc2] at hI
        rw [hs, hc2] at hcall
        have HI2 := Lib.hid hI
        have HCALL := Lib.hid hcall
        clear hI hle hx hy hs hc2 hcall
        go_wp2
        refine FG.wp_region_s 13 (FG.two wr (fun w' => ∃ z : Grow wr, w' = (wr.ext z).setCell ⟨g5, 0, none⟩ (W64 s))) (Ext.refl wr).drew (by kernel_rfl) (by kernel_rfl) ?_
        try simp only [Act.put, List.setIfInBounds_toArray, List.set_cons_succ, List.set_cons_zero]
        refine FG.sp rfl rfl (.int .i64 0) (fun _ => by go_simp) ?_
        simp only [Act.put, List.setIfInBounds_toArray, List.set_cons_succ, List.set_cons_zero]
        refine FG.sp rfl rfl (.int .i64 0) (fun _ => by go_simp) ?_
        simp only [Act.put, List.setIfInBounds_toArray, List.set_cons_succ, List.set_cons_zero]
        refine FG.sp rfl rfl (.pointer (some ⟨g5, 0, none⟩)) (fun _ => by go_simp) ?_
        simp only [Act.put, List.setIfInBounds_toArray, List.set_cons_succ, List.set_cons_zero]
        refine FG.sq rfl rfl (by kernel_rfl) (W64 x) (fun z => by go_simp) ?_
        simp only [Act.put, List.setIfInBounds_toArray, List.set_cons_succ, List.set_cons_zero]
        refine FG.sp rfl rfl (.int .i64 0) (fun _ => by go_simp) ?_
        simp only [Act.put, List.setIfInBounds_toArray, List.set_cons_succ, List.set_cons_zero]
        refine FG.sp rfl rfl (.pointer (some ⟨g6, 0, none⟩)) (fun _ => by go_simp) ?_
        simp only [Act.put, List.setIfInBounds_toArray, List.set_cons_succ, List.set_cons_zero]
        refine FG.sq rfl rfl (by kernel_rfl) (W64 y) (fun z => by go_simp) ?_
        simp only [Act.put, List.setIfInBounds_toArray, List.set_cons_succ, List.set_cons_zero]
        refine FG.sp rfl rfl (.int .u64 (cc : Int)) (fun _ => by go_simp) ?_
        simp only [Act.put, List.setIfInBounds_toArray, List.set_cons_succ, List.set_cons_zero]
        refine FG.sp rfl rfl (.tuple #[W64 s, W64 c2]) (fun w => by go_simp; exact HCALL.out w) ?_
        simp only [Act.put, List.setIfInBounds_toArray, List.set_cons_succ, List.set_cons_zero]
        refine FG.sp rfl rfl (.tuple #[W64 s, W64 c2]) (fun w => by go_simp) ?_
        simp only [Act.put, List.setIfInBounds_toArray, List.set_cons_succ, List.set_cons_zero]
        refine FG.sp rfl rfl (W64 s) (fun w => by go_simp) ?_
        simp only [Act.put, List.setIfInBounds_toArray, List.set_cons_succ, List.set_cons_zero]
        refine FG.sp rfl rfl (W64 c2) (fun w => by go_simp) ?_
        simp only [Act.put, List.setIfInBounds_toArray, List.set_cons_succ, List.set_cons_zero]
        refine FG.sp rfl rfl (.pointer (some ⟨g5, 0, none⟩)) (fun _ => by go_simp) ?_
        simp only [Act.put, List.setIfInBounds_toArray, List.set_cons_succ, List.set_cons_zero]
        refine FG.ss rfl rfl (fun z => ⟨_, (by go_simp), z, rfl⟩) ?_
        simp only [Act.put, List.setIfInBounds_toArray, List.set_cons_succ, List.set_cons_zero]
        refine FG.sp rfl rfl (W64 c2) (fun w => by go_simp) ?_
        simp only [Act.put, List.setIfInBounds_toArray, List.set_cons_succ, List.set_cons_zero]
        rintro w' ⟨z, rfl⟩
        have hxz : Ext wr (wr.ext z) := ext_ext wr z
        generalize wr.ext z = wz at *
        go_wp2
        go_roundw
        case rel => exact ⟨0 + 1, c2, setW f 0 s, by omega, by go_num, rfl, HI2.out, (HA5.out.ext hxz).set 0 s (by omega), other_cell (HB6.out.ext hxz) (Ne.symm hne), other_cell (Blk.ext HRR.out hxz) (by omega), Ext.setCell_new (HX.out.trans hxz) trivial (Nat.le_trans (Nat.le_add_right _ 3) hL5)⟩
        case measure => simp [intOf]
      · have hc5 := HA5.out.cell 1 (by omega)
        have hc6 := HB6.out.cell 1 (by omega)
        have hf5 := HA5.out.frozen 1
        have hI := HI.out.next (k := 1) (by omega)
        have hle := HI.out.le
        obtain ⟨x, hx⟩ : ∃ x, f 1 = x := ⟨_, rfl⟩
        obtain ⟨y, hy⟩ : ∃ y, wB 1 = y := ⟨_, rfl⟩
        rw [hx] at hc5
        rw [hy] at hc6
        rw [HWB.out, hx, hy] at hI
        have hcall := sub64_any x y cc hle
        obtain ⟨s, hs⟩ : ∃ s, ((x+18446744073709551616-y-cc)%18446744073709551616) = s := ⟨_, rfl⟩
        obtain ⟨c2, hc2⟩ : ∃ c2, (if x<y+cc then 1 else 0) = c2 := ⟨_, rfl⟩
        rw [hs, hc2] at hI
        rw [hs, hc2] at hcall
        have HI2 := Lib.hid hI
        have HCALL := Lib.hid hcall
        clear hI hle hx hy hs hc2 hcall
        go_wp2
        refine FG.wp_region_s 13 (FG.two wr (fun w' => ∃ z : Grow wr, w' = (wr.ext z).setCell ⟨g5, 1, none⟩ (W64 s))) (Ext.refl wr).drew (by kernel_rfl) (by kernel_rfl) ?_
        try simp only [Act.put, List.setIfInBounds_toArray, List.set_cons_succ, List.set_cons_zero]
        refine FG.sp rfl rfl (.int .i64 1) (fun _ => by go_simp) ?_
        simp only [Act.put, List.setIfInBounds_toArray, List.set_cons_succ, List.set_cons_zero]
        refine FG.sp rfl rfl (.int .i64 1) (fun _ => by go_simp) ?_
        simp only [Act.put, List.setIfInBounds_toArray, List.set_cons_succ, List.set_cons_zero]
        refine FG.sp rfl rfl (.pointer (some ⟨g5, 1, none⟩)) (fun _ => by go_simp) ?_
        simp only [Act.put, List.setIfInBounds_toArray, List.set_cons_succ, List.set_cons_zero]
        refine FG.sq rfl rfl (by kernel_rfl) (W64 x) (fun z => by go_simp) ?_
        simp only [Act.put, List.setIfInBounds_toArray, List.set_cons_succ, List.set_cons_zero]
        refine FG.sp rfl rfl (.int .i64 1) (fun _ => by go_simp) ?_
        simp only [Act.put, List.setIfInBounds_toArray, List.set_cons_succ, List.set_cons_zero]
        refine FG.sp rfl rfl (.pointer (some ⟨g6, 1, none⟩)) (fun _ => by go_simp) ?_
        simp only [Act.put, List.setIfInBounds_toArray, List.set_cons_succ, List.set_cons_zero]
        refine FG.sq rfl rfl (by kernel_rfl) (W64 y) (fun z => by go_simp) ?_
        simp only [Act.put, List.setIfInBounds_toArray, List.set_cons_succ, List.set_cons_zero]
        refine FG.sp rfl rfl (.int .u64 (cc : Int)) (fun _ => by go_simp) ?_
        simp only [Act.put, List.setIfInBounds_toArray, List.set_cons_succ, List.set_cons_zero]
        refine FG.sp rfl rfl (.tuple #[W64 s, W64 c2]) (fun w => by go_simp; exact HCALL.out w) ?_
        simp only [Act.put, List.setIfInBounds_toArray, List.set_cons_succ, List.set_cons_zero]
        refine FG.sp rfl rfl (.tuple #[W64 s, W64 c2]) (fun w => by go_simp) ?_
        simp only [Act.put, List.setIfInBounds_toArray, List.set_cons_succ, List.set_cons_zero]
        refine FG.sp rfl rfl (W64 s) (fun w => by go_simp) ?_
        simp only [Act.put, List.setIfInBounds_toArray, List.set_cons_succ, List.set_cons_zero]
        refine FG.sp rfl rfl (W64 c2) (fun w => by go_simp) ?_
        simp only [Act.put, List.setIfInBounds_toArray, List.set_cons_succ, List.set_cons_zero]
        refine FG.sp rfl rfl (.pointer (some ⟨g5, 1, none⟩)) (fun _ => by go_simp) ?_
        simp only [Act.put, List.setIfInBounds_toArray, List.set_cons_succ, List.set_cons_zero]
        refine FG.ss rfl rfl (fun z => ⟨_, (by go_simp), z, rfl⟩) ?_
        simp only [Act.put, List.setIfInBounds_toArray, List.set_cons_succ, List.set_cons_zero]
        refine FG.sp rfl rfl (W64 c2) (fun w => by go_simp) ?_
        simp only [Act.put, List.setIfInBounds_toArray, List.set_cons_succ, List.set_cons_zero]
        rintro w' ⟨z, rfl⟩
        have hxz : Ext wr (wr.ext z) := ext_ext wr z
        generalize wr.ext z = wz at *
        go_wp2
        go_roundw
        case rel => exact ⟨1 + 1, c2, setW f 1 s, by omega, by go_num, rfl, HI2.out, (HA5.out.ext hxz).set 1 s (by omega), other_cell (HB6.out.ext hxz) (Ne.symm hne), other_cell (Blk.ext HRR.out hxz) (by omega), Ext.setCell_new (HX.out.trans hxz) trivial (Nat.le_trans (Nat.le_add_right _ 3) hL5)⟩
        case measure => simp [intOf]
      · have hc5 := HA5.out.cell 2 (by omega)
        have hc6 := HB6.out.cell 2 (by omega)
        have hf5 := HA5.out.frozen 2
        have hI := HI.out.next (k := 2) (by omega)
        have hle := HI.out.le
        obtain ⟨x, hx⟩ : ∃ x, f 2 = x := ⟨_, rfl⟩
        obtain ⟨y, hy⟩ : ∃ y, wB 2 = y := ⟨_, rfl⟩
        rw [hx] at hc5
        rw [hy] at hc6
        rw [HWB.out, hx, hy] at hI
        have hcall := sub64_any x y cc hle
        obtain ⟨s, hs⟩ : ∃ s, ((x+18446744073709551616-y-cc)%18446744073709551616) = s := ⟨_, rfl⟩
        obtain ⟨c2, hc2⟩ : ∃ c2, (if x<y+cc then 1 else 0) = c2 := ⟨_, rfl⟩
        rw [hs, hc2] at hI
        rw [hs, hc2] at hcall
        have HI2 := Lib.hid hI
        have HCALL := Lib.hid hcall
        clear hI hle hx hy hs hc2 hcall
        go_wp2
        refine FG.wp_region_s 13 (FG.two wr (fun w' => ∃ z : Grow wr, w' = (wr.ext z).setCell ⟨g5, 2, none⟩ (W64 s))) (Ext.refl wr).drew (by kernel_rfl) (by kernel_rfl) ?_
        try simp only [Act.put, List.setIfInBounds_toArray, List.set_cons_succ, List.set_cons_zero]
        refine FG.sp rfl rfl (.int .i64 2) (fun _ => by go_simp) ?_
        simp only [Act.put, List.setIfInBounds_toArray, List.set_cons_succ, List.set_cons_zero]
        refine FG.sp rfl rfl (.int .i64 2) (fun _ => by go_simp) ?_
        simp only [Act.put, List.setIfInBounds_toArray, List.set_cons_succ, List.set_cons_zero]
        refine FG.sp rfl rfl (.pointer (some ⟨g5, 2, none⟩)) (fun _ => by go_simp) ?_
        simp only [Act.put, List.setIfInBounds_toArray, List.set_cons_succ, List.set_cons_zero]
        refine FG.sq rfl rfl (by kernel_rfl) (W64 x) (fun z => by go_simp) ?_
        simp only [Act.put, List.setIfInBounds_toArray, List.set_cons_succ, List.set_cons_zero]
        refine FG.sp rfl rfl (.int .i64 2) (fun _ => by go_simp) ?_
        simp only [Act.put, List.setIfInBounds_toArray, List.set_cons_succ, List.set_cons_zero]
        refine FG.sp rfl rfl (.pointer (some ⟨g6, 2, none⟩)) (fun _ => by go_simp) ?_
        simp only [Act.put, List.setIfInBounds_toArray, List.set_cons_succ, List.set_cons_zero]
        refine FG.sq rfl rfl (by kernel_rfl) (W64 y) (fun z => by go_simp) ?_
        simp only [Act.put, List.setIfInBounds_toArray, List.set_cons_succ, List.set_cons_zero]
        refine FG.sp rfl rfl (.int .u64 (cc : Int)) (fun _ => by go_simp) ?_
        simp only [Act.put, List.setIfInBounds_toArray, List.set_cons_succ, List.set_cons_zero]
        refine FG.sp rfl rfl (.tuple #[W64 s, W64 c2]) (fun w => by go_simp; exact HCALL.out w) ?_
        simp only [Act.put, List.setIfInBounds_toArray, List.set_cons_succ, List.set_cons_zero]
        refine FG.sp rfl rfl (.tuple #[W64 s, W64 c2]) (fun w => by go_simp) ?_
        simp only [Act.put, List.setIfInBounds_toArray, List.set_cons_succ, List.set_cons_zero]
        refine FG.sp rfl rfl (W64 s) (fun w => by go_simp) ?_
        simp only [Act.put, List.setIfInBounds_toArray, List.set_cons_succ, List.set_cons_zero]
        refine FG.sp rfl rfl (W64 c2) (fun w => by go_simp) ?_
        simp only [Act.put, List.setIfInBounds_toArray, List.set_cons_succ, List.set_cons_zero]
        refine FG.sp rfl rfl (.pointer (some ⟨g5, 2, none⟩)) (fun _ => by go_simp) ?_
        simp only [Act.put, List.setIfInBounds_toArray, List.set_cons_succ, List.set_cons_zero]
        refine FG.ss rfl rfl (fun z => ⟨_, (by go_simp), z, rfl⟩) ?_
        simp only [Act.put, List.setIfInBounds_toArray, List.set_cons_succ, List.set_cons_zero]
        refine FG.sp rfl rfl (W64 c2) (fun w => by go_simp) ?_
        simp only [Act.put, List.setIfInBounds_toArray, List.set_cons_succ, List.set_cons_zero]
        rintro w' ⟨z, rfl⟩
        have hxz : Ext wr (wr.ext z) := ext_ext wr z
        generalize wr.ext z = wz at *
        go_wp2
        go_roundw
        case rel => exact ⟨2 + 1, c2, setW f 2 s, by omega, by go_num, rfl, HI2.out, (HA5.out.ext hxz).set 2 s (by omega), other_cell (HB6.out.ext hxz) (Ne.symm hne), other_cell (Blk.ext HRR.out hxz) (by omega), Ext.setCell_new (HX.out.trans hxz) trivial (Nat.le_trans (Nat.le_add_right _ 3) hL5)⟩
        case measure => simp [intOf]
      · have hc5 := HA5.out.cell 3 (by omega)
        have hc6 := HB6.out.cell 3 (by omega)
        have hf5 := HA5.out.frozen 3
        have hI := HI.out.next (k := 3) (by omega)
        have hle := HI.out.le
        obtain ⟨x, hx⟩ : ∃ x, f 3 = x := ⟨_, rfl⟩
        obtain ⟨y, hy⟩ : ∃ y, wB 3 = y := ⟨_, rfl⟩
        rw [hx] at hc5
        rw [hy] at hc6
        rw [HWB.out, hx, hy] at hI
        have hcall := sub64_any x y cc hle
        obtain ⟨s, hs⟩ : ∃ s, ((x+18446744073709551616-y-cc)%18446744073709551616) = s := ⟨_, rfl⟩
        obtain ⟨c2, hc2⟩ : ∃ c2, (if x<y+cc then 1 else 0) = c2 := ⟨_, rfl⟩
        rw [hs, hc2] at hI
        rw [hs, hc2] at hcall
        have HI2 := Lib.hid hI
        have HCALL := Lib.hid hcall
        clear hI hle hx hy hs hc2 hcall
        go_wp2
        refine FG.wp_region_s 13 (FG.two wr (fun w' => ∃ z : Grow wr, w' = (wr.ext z).setCell ⟨g5, 3, none⟩ (W64 s))) (Ext.refl wr).drew (by kernel_rfl) (by kernel_rfl) ?_
        try simp only [Act.put, List.setIfInBounds_toArray, List.set_cons_succ, List.set_cons_zero]
        refine FG.sp rfl rfl (.int .i64 3) (fun _ => by go_simp) ?_
        simp only [Act.put, List.setIfInBounds_toArray, List.set_cons_succ, List.set_cons_zero]
        refine FG.sp rfl rfl (.int .i64 3) (fun _ => by go_simp) ?_
        simp only [Act.put, List.setIfInBounds_toArray, List.set_cons_succ, List.set_cons_zero]
        refine FG.sp rfl rfl (.pointer (some ⟨g5, 3, none⟩)) (fun _ => by go_simp) ?_
        simp only [Act.put, List.setIfInBounds_toArray, List.set_cons_succ, List.set_cons_zero]
        refine FG.sq rfl rfl (by kernel_rfl) (W64 x) (fun z => by go_simp) ?_
        simp only [Act.put, List.setIfInBounds_toArray, List.set_cons_succ, List.set_cons_zero]
        refine FG.sp rfl rfl (.int .i64 3) (fun _ => by go_simp) ?_
        simp only [Act.put, List.setIfInBounds_toArray, List.set_cons_succ, List.set_cons_zero]
        refine FG.sp rfl rfl (.pointer (some ⟨g6, 3, none⟩)) (fun _ => by go_simp) ?_
        simp only [Act.put, List.setIfInBounds_toArray, List.set_cons_succ, List.set_cons_zero]
        refine FG.sq rfl rfl (by kernel_rfl) (W64 y) (fun z => by go_simp) ?_
        simp only [Act.put, List.setIfInBounds_toArray, List.set_cons_succ, List.set_cons_zero]
        refine FG.sp rfl rfl (.int .u64 (cc : Int)) (fun _ => by go_simp) ?_
        simp only [Act.put, List.setIfInBounds_toArray, List.set_cons_succ, List.set_cons_zero]
        refine FG.sp rfl rfl (.tuple #[W64 s, W64 c2]) (fun w => by go_simp; exact HCALL.out w) ?_
        simp only [Act.put, List.setIfInBounds_toArray, List.set_cons_succ, List.set_cons_zero]
        refine FG.sp rfl rfl (.tuple #[W64 s, W64 c2]) (fun w => by go_simp) ?_
        simp only [Act.put, List.setIfInBounds_toArray, List.set_cons_succ, List.set_cons_zero]
        refine FG.sp rfl rfl (W64 s) (fun w => by go_simp) ?_
        simp only [Act.put, List.setIfInBounds_toArray, List.set_cons_succ, List.set_cons_zero]
        refine FG.sp rfl rfl (W64 c2) (fun w => by go_simp) ?_
        simp only [Act.put, List.setIfInBounds_toArray, List.set_cons_succ, List.set_cons_zero]
        refine FG.sp rfl rfl (.pointer (some ⟨g5, 3, none⟩)) (fun _ => by go_simp) ?_
        simp only [Act.put, List.setIfInBounds_toArray, List.set_cons_succ, List.set_cons_zero]
        refine FG.ss rfl rfl (fun z => ⟨_, (by go_simp), z, rfl⟩) ?_
        simp only [Act.put, List.setIfInBounds_toArray, List.set_cons_succ, List.set_cons_zero]
        refine FG.sp rfl rfl (W64 c2) (fun w => by go_simp) ?_
        simp only [Act.put, List.setIfInBounds_toArray, List.set_cons_succ, List.set_cons_zero]
        rintro w' ⟨z, rfl⟩
        have hxz : Ext wr (wr.ext z) := ext_ext wr z
        generalize wr.ext z = wz at *
        go_wp2
        go_roundw
        case rel => exact ⟨3 + 1, c2, setW f 3 s, by omega, by go_num, rfl, HI2.out, (HA5.out.ext hxz).set 3 s (by omega), other_cell (HB6.out.ext hxz) (Ne.symm hne), other_cell (Blk.ext HRR.out hxz) (by omega), Ext.setCell_new (HX.out.trans hxz) trivial (Nat.le_trans (Nat.le_add_right _ 3) hL5)⟩
        case measure => simp [intOf]
    · obtain rfl : k = 4 := by omega
      have HBE : Hid (be (val f 4) 32 = D) := Lib.hid (HD.out f cc HI.out)
      go_wp2_with (first | (refine wpl_load121 rfl _ rfl g5 rfl f HA5.out ?_) | (go_at_call 101; go_must (refine (digest_of f HI.out.lt _).mono ?_; rintro e w4 ⟨rfl, hx4⟩; rw [HBE.out]; have HX4 := Lib.hid (HX.out.trans hx4); have HR4 := Lib.hid (Blk.ext HRR.out hx4); clear hx4)) | (refine wpl_store27 rfl _ _ rfl (w.heap.size + 2) D (Sha.zeros 32) rfl rfl HDl.out (by simp [Sha.zeros]) HR4.out ?_; intro w8 h8 hu8; have H8 := Lib.hid h8; have HX8 := Lib.hid (HX4.out.upd_new hu8 (by omega)); clear h8 hu8))
      exact ret27 rfl (w.heap.size + 2) D HDl.out rfl H8.out rfl ⟨rfl, HX8.out⟩
end Go.Proofs.Ytapojpjmeadabaa
end

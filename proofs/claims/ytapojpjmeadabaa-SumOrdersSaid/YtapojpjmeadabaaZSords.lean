/- Sords: several texts in one. -/
import Derived.Test.YtapojpjmeadabaaZKnown5
section
/- sacristanlaw05.SumOrders. -/
namespace Go.Proofs.Ytapojpjmeadabaa
open Go.RowKit
set_option linter.unusedVariables false
set_option linter.unusedSimpArgs false
attribute [local go_sem] lt_ext cell?_ext frozen?_ext shape?_ext

theorem run_slice_all {t e : TypeId} {z : Value} {sz bytes : Nat} (E : EI t e z sz bytes) {w : World} {v : Value} {n : Nat} {xs : List Value} (h : Rd w sz v n xs)
    (lo hi : Option Value) (l k : Nat) (hlo : lo = none ∧ l = 0 ∨ lo = some (.int .i64 (l : Int))) (hhi : hi = none ∧ k = n ∨ hi = some (.int .i64 (k : Int))) (hlk : l ≤ k) (hk : k ≤ n) :
    ∃ v', (∀ w1, (Instr.slice t v lo hi none).run Try.prog w1 = .ok v' w1) ∧ Rd w sz v' (k - l) ((xs.take (k * sz)).drop (l * sz)) := by
  obtain ⟨A, cap, rfl, h1, h2, h3, h4⟩ := h.is
  refine ⟨_, fun w1 => ?_, h.sub hlk hk⟩
  have hb : ∀ (m : Nat) (c : BoundsCode) (y : Nat), m ≤ y → (Instr.sliceBound (.int .i64 (m : Int)) y c).run Try.prog w1 = .ok m w1 := by
    intro m c y hm
    simp [Instr.sliceBound, asIntOf]
    intro h
    omega
  have hbs : (Instr.sliceBounds true n cap lo hi none).run Try.prog w1 = .ok (l, k, cap) w1 := by
    have hkc : k ≤ cap := by omega
    unfold Instr.sliceBounds
    rcases hlo with ⟨rfl, rfl⟩ | rfl <;> rcases hhi with ⟨rfl, rfl⟩ | rfl <;> simp [Sem.run_bind, hb, hlk, hk, hkc, h1]
  simp [Instr.slice, Sem.run_bind, run_underlying E.t, hbs, E.size]
theorem exec_slice38 {o : Oper} {ρ : Operand → Value} (x : Operand) (lo hi : Option Operand) (ho : o.op = .slice 38 x lo hi none) (v v' : Value) (hx : ρ x = v) (L H : Option Value) (hL : lo.map ρ = L) (hH : hi.map ρ = H)
    (hall : ∀ w1, (Instr.slice 38 v L H none).run Try.prog w1 = .ok v' w1) (w1 : World) : (execOp ρ o).run Try.prog w1 = .ok (.value v') w1 := by
  have hr' : (Instr.sliceAt 38 v L H none).run Try.prog w1 = .ok v' w1 := by rw [← hall w1]; simp [Instr.sliceAt, run_underlying ei38.t]
  unfold execOp
  simp only [ho, hx, hL, hH, Option.map_none, Sem.run_bind, hr', Result.andThen_ok, Sem.run_pure]
def backI (xs : List It) (m : Nat) : List It := (xs.drop (xs.length - m)).reverse
theorem backI_next (xs : List It) (m j : Nat) (h : j + m + 1 = xs.length) : backI xs (m + 1) = backI xs m ++ [xs.getD j default] := by
  unfold backI
  rw [show xs.length - (m + 1) = j by omega, show xs.length - m = j + 1 by omega, List.drop_eq_getElem_cons (by omega), List.reverse_cons]
  simp [List.getD, show j < xs.length by omega]
theorem backI_all (xs : List It) : backI xs xs.length = xs.reverse := by simp [backI]
set_option maxRecDepth 100000 in
set_option maxHeartbeats 2000000 in
theorem sumorders_of (kv lv : Value) (key : List UInt8) (xs : List It) (c : Nat) (hc : c < 256) (w : World) (hK : Bs w kv key) (hI : Its w lv xs) (hz : ∀ x ∈ xs, x.b.length ≤ 140737488355328) :
    Calls Try.prog 18 #[kv, lv, .int .u8 (c : Int)] w fun e w' => e = .returned (.bool true) ∧ Ext w w' := by
  obtain ⟨Ak, capk, rfl, hcapk, hcmk, _, _⟩ := hK.is
  obtain ⟨Al, capl, rfl, hcapl, hcml, _, _⟩ := hI.rd.is
  unfold maxLen at hcmk hcml
  obtain ⟨n, hn⟩ : ∃ n, longN xs = n := ⟨_, rfl⟩
  have HN := Lib.hid hn
  have HK := Lib.hid hK
  have HI := Lib.hid hI
  have HE := Lib.hid (longN_each xs)
  have HZ := Lib.hid hz
  clear hK hI hn hz
  by_cases h1 : 100 < key.length
  · skip
    go_enter Try.func18, Try.ntmps18
    go_wp2_with (first | (go_at_call 36; go_must (refine (long_any _ xs _ HI.out (its_small HZ.out (by omega))).mono ?_; rintro e w1 ⟨rfl, rfl⟩; rw [HN.out])) | (go_at_call 54; go_must (refine (known5_any _).mono ?_; rintro e w2 ⟨rfl, hx2⟩; have HX2 := Lib.hid hx2; clear hx2)))
    go_ret
    exact ⟨rfl, HX2.out⟩
  by_cases h3 : 20 < xs.length
  · skip
    go_enter Try.func18, Try.ntmps18
    go_wp2_with (first | (go_at_call 36; go_must (refine (long_any _ xs _ HI.out (its_small HZ.out (by omega))).mono ?_; rintro e w1 ⟨rfl, rfl⟩; rw [HN.out])) | (go_at_call 54; go_must (refine (known5_any _).mono ?_; rintro e w2 ⟨rfl, hx2⟩; have HX2 := Lib.hid hx2; clear hx2)))
    go_ret
    exact ⟨rfl, HX2.out⟩
  by_cases h4 : 600 < n
  · skip
    go_enter Try.func18, Try.ntmps18
    go_wp2_with (first | (go_at_call 36; go_must (refine (long_any _ xs _ HI.out (its_small HZ.out (by omega))).mono ?_; rintro e w1 ⟨rfl, rfl⟩; rw [HN.out])) | (go_at_call 54; go_must (refine (known5_any _).mono ?_; rintro e w2 ⟨rfl, hx2⟩; have HX2 := Lib.hid hx2; clear hx2)))
    go_ret
    exact ⟨rfl, HX2.out⟩
  have hb0 : ∀ y ∈ xs, y.b.length ≤ 1073741000 := fun y hy => by have := HE.out y hy; rw [HN.out] at this; omega
  have HB0 := Lib.hid hb0
  obtain ⟨S, hS⟩ : ∃ S, allD key xs = S := ⟨_, rfl⟩
  have HSl : Hid (S.length = 32) := Lib.hid (by rw [← hS]; exact allD_length _ _)
  have HS := Lib.hid hS
  have HSR : Hid (allD key (backI xs xs.length) = S) := Lib.hid (by rw [backI_all, allD_reverse, hS])
  clear hb0 hS
  have TA : True := trivial
  go_enter Try.func18, Try.ntmps18
  go_wp2_with (first | (go_at_call 36; go_must (refine (long_any _ xs _ HI.out (its_small HZ.out (by omega))).mono ?_; rintro e w1 ⟨rfl, rfl⟩; rw [HN.out])))
  go_loopw [7, 8] (fun v i wr => ∃ m : Nat, m ≤ xs.length ∧ i = .int .i64 ((xs.length : Int) - 1 - (m : Int)) ∧ NewI w v (backI xs m) wr) (fun _ i _ => (intOf i + 1).toNat)
  case atStart => exact ⟨0, by omega, by simp, by simpa [backI] using NewI.nil (Ext.refl w)⟩
  case round =>
    obtain ⟨m, hm, rfl, hnew⟩ := hrel
    have HN2 := Lib.hid hnew
    have hxw := hnew.ext
    by_cases hlt : m < xs.length
    · obtain ⟨j, hj, hjm⟩ : ∃ j : Nat, (xs.length : Int) - 1 - (m : Int) = (j : Int) ∧ j + m + 1 = xs.length := ⟨xs.length - 1 - m, by omega, by omega⟩
      have hjl : j < xs.length := by omega
      have hIx := HI.out.ext hxw
      obtain ⟨b, o, cap', hA, hbl, hc0, hc1⟩ := hIx.at_ j hjl
      injection hA with hA1 hA2 hA3
      subst hA1
      subst hA3
      have hB := HI.out.each _ (It.mem hjl)
      have HBN := Lib.hid (backI_next xs m j hjm)
      have hbk : (backI xs m).length = m := by simp [backI]; omega
      generalize xs.getD j default = x at *
      have HBx : Hid (∀ y ∈ [x], Bs w y.u y.b) := Lib.hid (fun y hy => by obtain rfl : y = x := (by simpa using hy); exact hB)
      obtain ⟨A3, cap3, e3, _⟩ := hB.is
      have HIx : Hid (Its (wr.alloc (.cells #[.int .i64 x.z, .slice A3 x.b.length cap3] 50)) (.slice (some ⟨wr.heap.size, 0, none⟩) 1 1) [x]) := Lib.hid (by have h := its_one wr x (Rd.ext hB hxw); rw [e3] at h; exact h)
      rw [e3] at hc1
      rw [hj]
      have HJ := Lib.hid hj
      have HBK := Lib.hid hbk
      clear hnew hIx hB hj e3 hbk
      go_wp2_with (at_builtin; go_must (refine wpList_append_rd ei38 rfl _ _ rfl _ rfl (HN2.out.grow ((Ext.refl wr).alloc _)).own _ rfl HIx.out.rd (itc_one HBx.out) (by have := HBK.out; simp; omega) ?_; intro v4 w4 ho4 hg4 hf4; have HN4 : Hid (NewI w v4 (backI xs (m + 1)) w4) := Lib.hid (by rw [HBN.out]; exact (HN2.out.grow ((Ext.refl wr).alloc _)).app HBx.out ho4 hg4 hf4); clear ho4 hg4 hf4))
      go_roundw
      case rel => exact ⟨m + 1, by omega, by congr 1; omega, HN4.out⟩
      case measure => (simp [intOf] <;> omega)
    · obtain rfl : m = xs.length := by omega
      clear hnew
      go_wp2_with (first | (go_at_call 57; clear TA; go_must (refine (all_any _ _ key xs _ (Rd.ext HK.out hxw) (HI.out.ext hxw) (by omega) HB0.out).mono ?_; rintro e w1 ⟨rfl, hx1⟩; rw [HS.out]; have HN5 := Lib.hid (HN2.out.grow hx1); have TB : True := trivial; clear hx1)) | (refine wpl_alloc_agg rfl 27 rfl _ zero27.1 ?_) | (clear TB; refine wpl_store27 rfl _ _ rfl w1.heap.size S (Sha.zeros 32) rfl rfl HSl.out (by simp [Sha.zeros]) (heap_alloc_last w1 _) ?_; intro w2 h2 hu2; have H2 : Hid (Blk w2 w1.heap.size 27 S) := Lib.hid h2; have HN6 := Lib.hid (HN5.out.grow (((Ext.refl w1).alloc _).upd_new hu2 (Nat.le_refl _))); clear h2 hu2))
      have hKe : ((c : Int) % ((xs.length : Int) + 1)) = ((c % (xs.length + 1) : Nat) : Int) := by simp
      obtain ⟨K, hKK⟩ : ∃ K, c % (xs.length + 1) = K := ⟨_, rfl⟩
      have hKl : K ≤ xs.length := by have := Nat.mod_lt c (show 0 < xs.length + 1 by omega); omega
      rw [hKK] at hKe
      rw [hKe]
      clear hKe hKK
      obtain ⟨V1, hV1, hr1⟩ := run_slice_all ei38 HI.out.rd none (some (.int .i64 (K : Int))) 0 K (.inl ⟨rfl, rfl⟩) (.inr rfl) (Nat.zero_le _) hKl
      obtain ⟨V2, hV2, hr2⟩ := run_slice_all ei38 HI.out.rd (some (.int .i64 (K : Int))) none K xs.length (.inr rfl) (.inl ⟨rfl, rfl⟩) hKl (Nat.le_refl _)
      have HI1 : Hid (Its w V1 (xs.take K)) := Lib.hid (its_take HI.out K hKl (by simpa using hr1))
      have HI2 : Hid (Its w V2 (xs.drop K)) := Lib.hid (its_drop HI.out K hKl (by rw [← itc_length, List.take_length] at hr2; exact hr2))
      have HV1 := Lib.hid hV1
      have HV2 := Lib.hid hV2
      obtain ⟨S1, hS1⟩ : ∃ S1, allD key (xs.take K) = S1 := ⟨_, rfl⟩
      obtain ⟨S2, hS2⟩ : ∃ S2, allD key (xs.drop K) = S2 := ⟨_, rfl⟩
      have HS1l : Hid (S1.length = 32) := Lib.hid (by rw [← hS1]; exact allD_length _ _)
      have HS2l : Hid (S2.length = 32) := Lib.hid (by rw [← hS2]; exact allD_length _ _)
      have hadd : addD S1 S2 = S := by rw [← hS1, ← hS2, ← allD_append, List.take_append_drop, HS.out]
      have HAD := Lib.hid hadd
      have HSB : Hid (subD S S2 = S1) := Lib.hid (by rw [← hadd]; exact subD_addD S1 S2 HS1l.out HS2l.out)
      have HS1 := Lib.hid hS1
      have HS2 := Lib.hid hS2
      have HBB : Hid (∀ z ∈ backI xs xs.length, z.b.length ≤ 1073741000) := Lib.hid (fun z hz => HB0.out z (by rw [backI_all] at hz; exact List.mem_reverse.1 hz))
      clear hV1 hV2 hr1 hr2 hadd hS1 hS2
      refine wp_region_m (by kernel_rfl) (by kernel_rfl) ?_; try simp only [Act.put, List.setIfInBounds_toArray, List.set_cons_succ, List.set_cons_zero]
      repeat (refine gq rfl rfl rfl rfl (fun K hK => ?_); go_big_quiet_op; refine hK _ ?_; clear hK K)
      refine gc rfl rfl rfl rfl 57 #[.slice Ak key.length capk, u7] (fun _ => by go_simp) (Dig S) (fun y => by have h := all_any _ _ key (backI xs xs.length) (w2.ext y) (Rd.ext HK.out (HN6.out.ext.trans (ext_ext w2 y))) (HN6.out.grow (ext_ext w2 y)).its (by omega) HBB.out; rw [HSR.out] at h; exact h) ?_
      simp only [Act.put, List.setIfInBounds_toArray, List.set_cons_succ, List.set_cons_zero]
      refine gx rfl rfl rfl rfl (Dig S) (fun y => exec_load27 (.tmp 10) rfl w1.heap.size rfl S HSl.out _ (Blk.ext H2.out (ext_ext w2 y))) ?_
      simp only [Act.put, List.setIfInBounds_toArray, List.set_cons_succ, List.set_cons_zero]
      refine ge rfl rfl rfl rfl _ (exec_eq27 _ _ _ rfl S S rfl rfl HSl.out HSl.out) ?_
      simp only [decide_true]
      simp only [Act.put, List.setIfInBounds_toArray, List.set_cons_succ, List.set_cons_zero]
      refine gq rfl rfl rfl rfl (fun K hK => ?_); go_big_quiet_op; refine hK _ ?_; clear hK K
      refine gq rfl rfl rfl rfl (fun K hK => ?_); go_big_quiet_op; refine hK _ ?_; clear hK K
      refine gq rfl rfl rfl rfl (fun K hK => ?_); go_big_quiet_op; refine hK _ ?_; clear hK K
      refine gq rfl rfl rfl rfl (fun K hK => ?_); go_big_quiet_op; refine hK _ ?_; clear hK K
      refine ge rfl rfl rfl rfl V1 (exec_slice38 (.tmp 55) none (some (.tmp 56)) rfl _ V1 rfl none (some (.int .i64 (K : Int))) rfl rfl HV1.out) ?_
      simp only [Act.put, List.setIfInBounds_toArray, List.set_cons_succ, List.set_cons_zero]
      refine gc rfl rfl rfl rfl 57 #[.slice Ak key.length capk, V1] (fun _ => by go_simp) (Dig S1) (fun y => by have h := all_any _ _ key (xs.take K) (w2.ext y) (Rd.ext HK.out (HN6.out.ext.trans (ext_ext w2 y))) (HI1.out.ext (HN6.out.ext.trans (ext_ext w2 y))) (by omega) (fun z hz => HB0.out z (List.mem_of_mem_take hz)); rw [HS1.out] at h; exact h) ?_
      simp only [Act.put, List.setIfInBounds_toArray, List.set_cons_succ, List.set_cons_zero]
      refine gq rfl rfl rfl rfl (fun K hK => ?_); go_big_quiet_op; refine hK _ ?_; clear hK K
      refine gq rfl rfl rfl rfl (fun K hK => ?_); go_big_quiet_op; refine hK _ ?_; clear hK K
      refine gq rfl rfl rfl rfl (fun K hK => ?_); go_big_quiet_op; refine hK _ ?_; clear hK K
      refine ge rfl rfl rfl rfl V2 (exec_slice38 (.tmp 60) (some (.tmp 61)) none rfl _ V2 rfl (some (.int .i64 (K : Int))) none rfl rfl HV2.out) ?_
      simp only [Act.put, List.setIfInBounds_toArray, List.set_cons_succ, List.set_cons_zero]
      refine gc rfl rfl rfl rfl 57 #[.slice Ak key.length capk, V2] (fun _ => by go_simp) (Dig S2) (fun y => by have h := all_any _ _ key (xs.drop K) (w2.ext y) (Rd.ext HK.out (HN6.out.ext.trans (ext_ext w2 y))) (HI2.out.ext (HN6.out.ext.trans (ext_ext w2 y))) (by omega) (fun z hz => HB0.out z (List.mem_of_mem_drop hz)); rw [HS2.out] at h; exact h) ?_
      simp only [Act.put, List.setIfInBounds_toArray, List.set_cons_succ, List.set_cons_zero]
      refine gc rfl rfl rfl rfl 59 #[Dig S1, Dig S2] (fun _ => by go_simp) (Dig S) (fun y => by have h := add_any S1 S2 HS1l.out HS2l.out (w2.ext y); rw [HAD.out] at h; exact h) ?_
      simp only [Act.put, List.setIfInBounds_toArray, List.set_cons_succ, List.set_cons_zero]
      refine gx rfl rfl rfl rfl (Dig S) (fun y => exec_load27 (.tmp 10) rfl w1.heap.size rfl S HSl.out _ (Blk.ext H2.out (ext_ext w2 y))) ?_
      simp only [Act.put, List.setIfInBounds_toArray, List.set_cons_succ, List.set_cons_zero]
      refine ge rfl rfl rfl rfl _ (exec_eq27 _ _ _ rfl S S rfl rfl HSl.out HSl.out) ?_
      simp only [decide_true]
      simp only [Act.put, List.setIfInBounds_toArray, List.set_cons_succ, List.set_cons_zero]
      refine gq rfl rfl rfl rfl (fun K hK => ?_); go_big_quiet_op; refine hK _ ?_; clear hK K
      refine gq rfl rfl rfl rfl (fun K hK => ?_); go_big_quiet_op; refine hK _ ?_; clear hK K
      refine gx rfl rfl rfl rfl (Dig S) (fun y => exec_load27 (.tmp 10) rfl w1.heap.size rfl S HSl.out _ (Blk.ext H2.out (ext_ext w2 y))) ?_
      simp only [Act.put, List.setIfInBounds_toArray, List.set_cons_succ, List.set_cons_zero]
      refine gq rfl rfl rfl rfl (fun K hK => ?_); go_big_quiet_op; refine hK _ ?_; clear hK K
      refine gq rfl rfl rfl rfl (fun K hK => ?_); go_big_quiet_op; refine hK _ ?_; clear hK K
      refine gq rfl rfl rfl rfl (fun K hK => ?_); go_big_quiet_op; refine hK _ ?_; clear hK K
      refine ge rfl rfl rfl rfl V2 (exec_slice38 (.tmp 71) (some (.tmp 72)) none rfl _ V2 rfl (some (.int .i64 (K : Int))) none rfl rfl HV2.out) ?_
      simp only [Act.put, List.setIfInBounds_toArray, List.set_cons_succ, List.set_cons_zero]
      refine gc rfl rfl rfl rfl 57 #[.slice Ak key.length capk, V2] (fun _ => by go_simp) (Dig S2) (fun y => by have h := all_any _ _ key (xs.drop K) (w2.ext y) (Rd.ext HK.out (HN6.out.ext.trans (ext_ext w2 y))) (HI2.out.ext (HN6.out.ext.trans (ext_ext w2 y))) (by omega) (fun z hz => HB0.out z (List.mem_of_mem_drop hz)); rw [HS2.out] at h; exact h) ?_
      simp only [Act.put, List.setIfInBounds_toArray, List.set_cons_succ, List.set_cons_zero]
      refine gc rfl rfl rfl rfl 60 #[Dig S, Dig S2] (fun _ => by go_simp) (Dig S1) (fun y => by have h := sub_any S S2 HSl.out HS2l.out (w2.ext y); rw [HSB.out] at h; exact h) ?_
      simp only [Act.put, List.setIfInBounds_toArray, List.set_cons_succ, List.set_cons_zero]
      refine gq rfl rfl rfl rfl (fun K hK => ?_); go_big_quiet_op; refine hK _ ?_; clear hK K
      refine gq rfl rfl rfl rfl (fun K hK => ?_); go_big_quiet_op; refine hK _ ?_; clear hK K
      refine gq rfl rfl rfl rfl (fun K hK => ?_); go_big_quiet_op; refine hK _ ?_; clear hK K
      refine ge rfl rfl rfl rfl V1 (exec_slice38 (.tmp 77) none (some (.tmp 78)) rfl _ V1 rfl none (some (.int .i64 (K : Int))) rfl rfl HV1.out) ?_
      simp only [Act.put, List.setIfInBounds_toArray, List.set_cons_succ, List.set_cons_zero]
      refine gc rfl rfl rfl rfl 57 #[.slice Ak key.length capk, V1] (fun _ => by go_simp) (Dig S1) (fun y => by have h := all_any _ _ key (xs.take K) (w2.ext y) (Rd.ext HK.out (HN6.out.ext.trans (ext_ext w2 y))) (HI1.out.ext (HN6.out.ext.trans (ext_ext w2 y))) (by omega) (fun z hz => HB0.out z (List.mem_of_mem_take hz)); rw [HS1.out] at h; exact h) ?_
      simp only [Act.put, List.setIfInBounds_toArray, List.set_cons_succ, List.set_cons_zero]
      refine ge rfl rfl rfl rfl _ (exec_eq27 _ _ _ rfl S1 S1 rfl rfl HS1l.out HS1l.out) ?_
      simp only [decide_true]
      simp only [Act.put, List.setIfInBounds_toArray, List.set_cons_succ, List.set_cons_zero]
      refine gq rfl rfl rfl rfl (fun K hK => ?_); go_big_quiet_op; refine hK _ ?_; clear hK K
      refine gq rfl rfl rfl rfl (fun K hK => ?_); go_big_quiet_op; refine hK _ ?_; clear hK K
      refine gc rfl rfl rfl rfl 54 #[] (fun _ => by go_simp) (.bool true) (fun y => known5_any _) ?_
      simp only [Act.put, List.setIfInBounds_toArray, List.set_cons_succ, List.set_cons_zero]
      refine gq rfl rfl rfl rfl (fun K hK => ?_); go_big_quiet_op; refine hK _ ?_; clear hK K
      refine gq rfl rfl rfl rfl (fun K hK => ?_); go_big_quiet_op; refine hK _ ?_; clear hK K
      refine gm_end_at rfl [] rfl (fun xs' y hk => ?_)
      clear hk
      simp only [fillM, Act.put, List.setIfInBounds_toArray, List.set_cons_succ, List.set_cons_zero]
      go_wp2
      go_ret
      exact ⟨rfl, HN6.out.ext.trans (ext_ext w2 y)⟩
theorem sumorders_any (kv lv : Value) (key : List UInt8) (xs : List It) (c : UInt8) (w : World) (hK : Bs w kv key) (hI : Its w lv xs) (hz : ∀ x ∈ xs, x.b.length ≤ 140737488355328) :
    Calls Try.prog 18 #[kv, lv, B8 c] w fun e w' => e = .returned (.bool true) ∧ Ext w w' := sumorders_of kv lv key xs c.toNat c.toNat_lt w hK hI hz
end Go.Proofs.Ytapojpjmeadabaa
end

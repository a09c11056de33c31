/- Seal5, Seal6, Seal7a, Seal7: several texts in one. -/
import Derived.Test.YtapojpjmeadabaaZSeal1
section
/- slices.Clone, slices.Equal; seal.Same. -/
namespace Go.Proofs.Ytapojpjmeadabaa
open Go.RowKit
set_option linter.unusedVariables false
set_option linter.unusedSimpArgs false
attribute [local go_sem] lt_ext cell?_ext frozen?_ext shape?_ext

structure NewD (w : World) (v : Value) (ds : List (List UInt8)) (w' : World) : Prop where
  own : Own w' 27 32 v ds.length (dgc ds)
  ext : Ext w w'
  fr : ∀ g, v.ownBlock = some g → w.heap.size ≤ g
  all : ∀ d ∈ ds, d.length = 32
theorem NewD.nil {w w' : World} (h : Ext w w') : NewD w (.slice none 0 0) [] w' := ⟨Own.nil _ _ _, h, (fun g hg => nomatch hg), (fun x hx => by cases hx)⟩
theorem NewD.dgs {w w' : World} {v : Value} {ds : List (List UInt8)} (h : NewD w v ds w') : Dgs w' v ds := ⟨Own.rd h.own, h.all⟩
theorem NewD.grow {w w1 w2 : World} {v : Value} {ds : List (List UInt8)} (h : NewD w v ds w1) (hx : Ext w1 w2) : NewD w v ds w2 := ⟨h.own.ext hx, h.ext.trans hx, h.fr, h.all⟩
theorem dgc_append (a b : List (List UInt8)) : dgc (a ++ b) = dgc a ++ dgc b := by simp [dgc]
theorem NewD.app {w w1 w2 : World} {v v' : Value} {xs ys : List (List UInt8)} (h : NewD w v xs w1) (hys : ∀ d ∈ ys, d.length = 32) (ho : Own w2 27 32 v' (xs.length + ys.length) (dgc xs ++ dgc ys)) (hg : Grew w1 w2 v) (hf : v'.ownBlock = v.ownBlock ∨ ∀ g, v'.ownBlock = some g → w1.heap.size ≤ g) : NewD w v' (xs ++ ys) w2 := by
  refine ⟨by rw [List.length_append, dgc_append]; exact ho, ?_, fun g hv => ?_, fun x hx => ?_⟩
  · exact (Chg.trans (S := fun _ => False) (Chg.of_ext h.ext _) (Chg.of_grew hg) (fun i hi e => by have := h.fr i e.symm; omega)).ext fun k hk => hk.elim
  · rcases hf with e | e
    · exact h.fr g (e ▸ hv)
    · exact Nat.le_trans h.ext.size (e g hv)
  · rcases List.mem_append.1 hx with h1 | h1
    · exact h.all x h1
    · exact hys x h1
theorem dgc_one (ds : List (List UInt8)) : ∀ u ∈ dgc ds, u.oneCell' = true := one_bytes _
/-- An empty slice in a block that was just made. -/
theorem own_empty (w : World) (e : TypeId) (sz : Nat) : Own (w.alloc (.cells #[] e)) e sz (.slice (some ⟨w.heap.size, 0, none⟩) 0 0) 0 [] := by
  refine ⟨by simp, .inr ⟨w.heap.size, 0, #[], rfl, Nat.zero_le _, heap_alloc_last w _, Nat.le_refl _, Nat.zero_le _, by simp, by simp⟩⟩
theorem run_eql_nil {t e : TypeId} (ht : Try.prog.underlying t = some (.slice e)) (a : Option Addr) (n c : Nat) (w : World) :
    (binOp .eql t (.slice a n c) (.slice none 0 0)).run Try.prog w = .ok (.bool a.isNone) w := by
  have h : ∀ d : Nat, (Op.equalIn (d + 1) t (.slice a n c) (.slice none 0 0)).run Try.prog w = .ok a.isNone w := fun d => by
    cases a <;> simp [Op.equalIn, run_underlying ht]
  simp only [binOp]
  simp [Op.equal, Op.maxDepth, h 9999]
set_option maxRecDepth 100000 in
set_option maxHeartbeats 1000000 in
theorem clone_any (v : Value) (l : List UInt8) (w : World) (hB : Bs w v l) (hl : l.length ≤ 4294967296) :
    Calls Try.prog 107 #[v] w fun e w' => ∃ v', e = .returned v' ∧ NewB w v' l w' := by
  obtain ⟨A, cap, rfl, h1, h2, h3, h4⟩ := hB.is
  cases A with
  | none =>
    have hc := h3 rfl
    subst hc
    have hl0 : l = [] := List.eq_nil_of_length_eq_zero (by omega)
    subst hl0
    show Calls Try.prog 107 #[.slice none 0 0] w _
    have hq := fun a n c w => run_eql_nil Try.underlying23 a n c w
    go_enter Try.func107, Try.ntmps107
    go_wp2
    go_ret
    exact ⟨_, rfl, NewB.nil (Ext.refl w)⟩
  | some p =>
    have HB := Lib.hid hB
    have HN0 : Hid (NewB w (.slice (some ⟨w.heap.size, 0, none⟩) 0 0) [] (w.alloc (.cells #[] 5))) := Lib.hid ⟨own_empty w 5 1, (Ext.refl w).alloc _, fun g hg => by injection hg with e; subst e; exact Nat.le_refl _⟩
    clear h3 h4 hB
    have hq := fun a n c w => run_eql_nil Try.underlying23 a n c w
    go_enter Try.func107, Try.ntmps107
    go_wp2_with (at_builtin; go_must (refine wpList_append_bs rfl _ _ rfl _ rfl HN0.out.own _ rfl (Rd.ext HB.out HN0.out.ext) (by simp; omega) ?_; intro v1 w1 ho1 hg1 hf1; have HN1 := Lib.hid (HN0.out.app ho1 hg1 hf1); rw [List.nil_append] at HN1; clear ho1 hg1 hf1))
    go_ret
    exact ⟨_, rfl, HN1.out⟩
set_option maxRecDepth 100000 in
set_option maxHeartbeats 1000000 in
theorem cloned_any (v : Value) (ds : List (List UInt8)) (w : World) (hB : Dgs w v ds) (hl : ds.length ≤ 4294967296) :
    Calls Try.prog 108 #[v] w fun e w' => ∃ v', e = .returned v' ∧ NewD w v' ds w' := by
  obtain ⟨A, cap, rfl, h1, h2, h3, h4⟩ := hB.rd.is
  cases A with
  | none =>
    have hc := h3 rfl
    subst hc
    have hl0 : ds = [] := List.eq_nil_of_length_eq_zero (by omega)
    subst hl0
    show Calls Try.prog 108 #[.slice none 0 0] w _
    have hq := fun a n c w => run_eql_nil Try.underlying66 a n c w
    go_enter Try.func108, Try.ntmps108
    go_wp2
    go_ret
    exact ⟨_, rfl, NewD.nil (Ext.refl w)⟩
  | some p =>
    have HB := Lib.hid hB
    have HN0 : Hid (NewD w (.slice (some ⟨w.heap.size, 0, none⟩) 0 0) [] (w.alloc (.cells #[] 27))) := Lib.hid ⟨own_empty w 27 32, (Ext.refl w).alloc _, (fun g hg => by injection hg with e; subst e; exact Nat.le_refl _), (fun x hx => by cases hx)⟩
    clear h3 h4 hB
    have hq := fun a n c w => run_eql_nil Try.underlying66 a n c w
    go_enter Try.func108, Try.ntmps108
    go_wp2_with (at_builtin; go_must (refine wpList_append_rd ei66 rfl _ _ rfl _ rfl HN0.out.own _ rfl (HB.out.ext HN0.out.ext).rd (dgc_one _) (by simp; omega) ?_; intro v1 w1 ho1 hg1 hf1; have HN1 := Lib.hid (HN0.out.app HB.out.all ho1 hg1 hf1); rw [List.nil_append] at HN1; clear ho1 hg1 hf1))
    go_ret
    exact ⟨_, rfl, HN1.out⟩
theorem take_next_eq {α : Type} [Inhabited α] (a b : List α) (k : Nat) (ha : k < a.length) (hb : k < b.length) (h : a.take k = b.take k) (he : a.getD k default = b.getD k default) : a.take (k + 1) = b.take (k + 1) := by
  rw [List.take_succ_eq_append_getElem ha, List.take_succ_eq_append_getElem hb, h]
  simp [List.getD, ha, hb] at he
  rw [he]
theorem differ_at {α : Type} [Inhabited α] (a b : List α) (k : Nat) (he : ¬ a.getD k default = b.getD k default) : ¬ a = b := fun h => he (by rw [h])
set_option maxRecDepth 100000 in
set_option maxHeartbeats 1000000 in
theorem sequal_any (va vb : Value) (la lb : List UInt8) (w : World) (hA : Bs w va la) (hB : Bs w vb lb) :
    Calls Try.prog 110 #[va, vb] w fun e w' => e = .returned (.bool (decide (la = lb))) ∧ Ext w w' := by
  obtain ⟨A, cap, rfl, hc1, hm1, _, _⟩ := hA.is
  obtain ⟨A2, cap2, rfl, hc2, hm2, _, _⟩ := hB.is
  unfold maxLen at hm1 hm2
  have HA := Lib.hid hA
  have HB := Lib.hid hB
  clear hA hB
  obtain ⟨bq, hbq⟩ : ∃ bq, decide (la = lb) = bq := ⟨_, rfl⟩
  have HBQ := Lib.hid hbq
  rw [hbq]
  clear hbq
  by_cases hl : la.length = lb.length
  · obtain ⟨n, hn⟩ : ∃ n, la.length = n := ⟨_, rfl⟩
    have HLA := Lib.hid hn
    have HLB : Hid (lb.length = n) := Lib.hid (by rw [← hl]; exact hn)
    rw [← hl, hn]
    rw [hn] at hc1
    clear hl hn hc2
    go_enter Try.func110, Try.ntmps110
    go_wp2
    go_loopw [13, 5] (fun i q wr => ∃ k : Nat, k ≤ n ∧ i = .int .i64 k ∧ la.take k = lb.take k ∧ Ext w wr) (fun i _ _ => n - (intOf i).toNat)
    case atStart => exact ⟨0, by omega, rfl, by simp, Ext.refl w⟩
    case round =>
      obtain ⟨k, hk, rfl, ht, hx⟩ := hrel
      have HX := Lib.hid hx
      have HT := Lib.hid ht
      clear ht
      by_cases hlt : k < n
      · obtain ⟨b, o, cap', hA, _, _, hbl, hcell⟩ := HA.out.pos (by have := HLA.out; omega)
        injection hA with hA1 hA2 hA3
        subst hA1
        subst hA3
        obtain ⟨b2, o2, cap2', hB, _, _, hbl2, hcell2⟩ := HB.out.pos (by have := HLB.out; omega)
        injection hB with hB1 hB2 hB3
        subst hB1
        subst hB3
        have hca := (hx.cell b (o + k) hbl).trans (hcell k (by have := HLA.out; omega))
        have hcb := (hx.cell b2 (o2 + k) hbl2).trans (hcell2 k (by have := HLB.out; omega))
        have hb1 := Nat.lt_of_lt_of_le hbl hx.size
        have hb2 := Nat.lt_of_lt_of_le hbl2 hx.size
        have HNE : Hid (la.getD k 0 = lb.getD k 0 → la.take (k + 1) = lb.take (k + 1)) := Lib.hid (fun he => take_next_eq la lb k (by have := HLA.out; omega) (by have := HLB.out; omega) HT.out he)
        have HDF : Hid (¬ la.getD k 0 = lb.getD k 0 → decide (la = lb) = false) := Lib.hid (fun he => decide_eq_false (differ_at la lb k he))
        clear hA2 hB2 hcell hcell2 hx
        generalize la.getD k 0 = x at *
        generalize lb.getD k 0 = y at *
        by_cases hxy : x = y
        · subst hxy
          go_wp2
          refine wp_region_m (by kernel_rfl) (by kernel_rfl) ?_; try simp only [Act.put, List.setIfInBounds_toArray, List.set_cons_succ, List.set_cons_zero]
          repeat (refine gq rfl rfl rfl rfl (fun K hK => ?_); go_big_quiet_op; refine hK _ ?_; clear hK K)
          refine gm_end_at rfl [] rfl (fun xs z hk => ?_)
          clear hk
          simp only [fillM, Act.put, List.setIfInBounds_toArray, List.set_cons_succ, List.set_cons_zero]
          have HXZ := Lib.hid (HX.out.trans (ext_ext wr z))
          go_wp2
          go_roundw
          case rel => exact ⟨k + 1, by omega, by go_num, HNE.out (by trivial), HXZ.out⟩
          case measure => (simp [intOf] <;> omega)
        · have hne : ¬ i8 x = i8 y := fun h => hxy (i8_inj h)
          have hq : bq = false := by rw [← HBQ.out]; exact HDF.out hxy
          subst hq
          go_wp2
          refine wp_region_m (by kernel_rfl) (by kernel_rfl) ?_; try simp only [Act.put, List.setIfInBounds_toArray, List.set_cons_succ, List.set_cons_zero]
          repeat (refine gq rfl rfl rfl rfl (fun K hK => ?_); go_big_quiet_op; refine hK _ ?_; clear hK K)
          refine gm_end_at rfl [] rfl (fun xs z hk => ?_)
          clear hk
          simp only [fillM, Act.put, List.setIfInBounds_toArray, List.set_cons_succ, List.set_cons_zero]
          have HXZ := Lib.hid (HX.out.trans (ext_ext wr z))
          go_wp2
          go_ret
          exact ⟨rfl, HXZ.out⟩
      · obtain rfl : k = n := by omega
        have he : la = lb := by
          have h := HT.out
          rw [List.take_of_length_le (Nat.le_of_eq HLA.out), List.take_of_length_le (Nat.le_of_eq HLB.out)] at h
          exact h
        have hq : bq = true := by rw [← HBQ.out]; exact decide_eq_true he
        subst hq
        clear hx he
        go_wp2
        go_ret
        exact ⟨rfl, HX.out⟩
  · have he : ¬ la = lb := fun h => hl (by rw [h])
    have hq : bq = false := by rw [← HBQ.out]; exact decide_eq_false he
    subst hq
    have hli : ¬ (la.length : Int) = (lb.length : Int) := by omega
    go_enter Try.func110, Try.ntmps110
    go_wp2
    go_ret
    exact ⟨rfl, Ext.refl w⟩
set_option maxRecDepth 100000 in
set_option maxHeartbeats 1000000 in
theorem sequald_any (va vb : Value) (la lb : List (List UInt8)) (w : World) (hA : Dgs w va la) (hB : Dgs w vb lb) :
    Calls Try.prog 111 #[va, vb] w fun e w' => e = .returned (.bool (decide (la = lb))) ∧ Ext w w' := by
  obtain ⟨A, cap, rfl, hc1, hm1, _, _⟩ := hA.rd.is
  obtain ⟨A2, cap2, rfl, hc2, hm2, _, _⟩ := hB.rd.is
  unfold maxLen at hm1 hm2
  have HA := Lib.hid hA
  have HB := Lib.hid hB
  clear hA hB
  obtain ⟨bq, hbq⟩ : ∃ bq, decide (la = lb) = bq := ⟨_, rfl⟩
  have HBQ := Lib.hid hbq
  rw [hbq]
  clear hbq
  by_cases hl : la.length = lb.length
  · obtain ⟨n, hn⟩ : ∃ n, la.length = n := ⟨_, rfl⟩
    have HLA := Lib.hid hn
    have HLB : Hid (lb.length = n) := Lib.hid (by rw [← hl]; exact hn)
    rw [← hl, hn]
    rw [hn] at hc1
    clear hl hn hc2
    go_enter Try.func111, Try.ntmps111
    go_wp2
    go_loopw [13, 5] (fun i q wr => ∃ k : Nat, k ≤ n ∧ i = .int .i64 k ∧ la.take k = lb.take k ∧ Ext w wr) (fun i _ _ => n - (intOf i).toNat)
    case atStart => exact ⟨0, by omega, rfl, by simp, Ext.refl w⟩
    case round =>
      obtain ⟨k, hk, rfl, ht, hx⟩ := hrel
      have HX := Lib.hid hx
      have HT := Lib.hid ht
      clear ht
      by_cases hlt : k < n
      · obtain ⟨b, o, cap', hA, hbl, hxl, hca0⟩ := HA.out.at_ k (by have := HLA.out; omega)
        injection hA with hA1 hA2 hA3
        subst hA1
        subst hA3
        obtain ⟨b2, o2, cap2', hB, hbl2, hyl, hcb0⟩ := HB.out.at_ k (by have := HLB.out; omega)
        injection hB with hB1 hB2 hB3
        subst hB1
        subst hB3
        have HCA : Hid (∀ z : Grow wr, ∀ j u, (la.getD k [])[j]? = some u → (wr.ext z).cell? ⟨b, o + k * 32 + j, none⟩ = some (B8 u)) := Lib.hid (fun z j u hj => ((hx.trans (ext_ext wr z)).cell b (o + k * 32 + j) hbl).trans (hca0 j u hj))
        have HCB : Hid (∀ z : Grow wr, ∀ j u, (lb.getD k [])[j]? = some u → (wr.ext z).cell? ⟨b2, o2 + k * 32 + j, none⟩ = some (B8 u)) := Lib.hid (fun z j u hj => ((hx.trans (ext_ext wr z)).cell b2 (o2 + k * 32 + j) hbl2).trans (hcb0 j u hj))
        have HXL := Lib.hid hxl
        have HYL := Lib.hid hyl
        have hb1 := Nat.lt_of_lt_of_le hbl hx.size
        have hb2 := Nat.lt_of_lt_of_le hbl2 hx.size
        have HNE : Hid (la.getD k [] = lb.getD k [] → la.take (k + 1) = lb.take (k + 1)) := Lib.hid (fun he => take_next_eq la lb k (by have := HLA.out; omega) (by have := HLB.out; omega) HT.out he)
        have HDF : Hid (¬ la.getD k [] = lb.getD k [] → decide (la = lb) = false) := Lib.hid (fun he => decide_eq_false (differ_at la lb k he))
        clear hA2 hB2 hca0 hcb0 hxl hyl hx
        generalize la.getD k [] = x at *
        generalize lb.getD k [] = y at *
        by_cases hxy : x = y
        · subst hxy
          go_wp2
          refine wp_region_m (by kernel_rfl) (by kernel_rfl) ?_; try simp only [Act.put, List.setIfInBounds_toArray, List.set_cons_succ, List.set_cons_zero]
          refine gq rfl rfl rfl rfl (fun K hK => ?_); go_big_quiet_op; refine hK _ ?_; clear hK K
          refine gq rfl rfl rfl rfl (fun K hK => ?_); go_big_quiet_op; refine hK _ ?_; clear hK K
          refine gq rfl rfl rfl rfl (fun K hK => ?_); go_big_quiet_op; refine hK _ ?_; clear hK K
          refine gx rfl rfl rfl rfl (Dig x) (fun z => exec_load27_at (.tmp 18) rfl b (o + k * 32) rfl x HXL.out _ (HCA.out z)) ?_
          simp only [Act.put, List.setIfInBounds_toArray, List.set_cons_succ, List.set_cons_zero]
          refine gq rfl rfl rfl rfl (fun K hK => ?_); go_big_quiet_op; refine hK _ ?_; clear hK K
          refine gq rfl rfl rfl rfl (fun K hK => ?_); go_big_quiet_op; refine hK _ ?_; clear hK K
          refine gq rfl rfl rfl rfl (fun K hK => ?_); go_big_quiet_op; refine hK _ ?_; clear hK K
          refine gx rfl rfl rfl rfl (Dig x) (fun z => exec_load27_at (.tmp 22) rfl b2 (o2 + k * 32) rfl x HYL.out _ (HCB.out z)) ?_
          simp only [Act.put, List.setIfInBounds_toArray, List.set_cons_succ, List.set_cons_zero]
          refine ge rfl rfl rfl rfl _ (exec_ne27 _ _ _ rfl x x rfl rfl HXL.out HYL.out) ?_
          simp only [decide_true, Bool.not_true]
          simp only [Act.put, List.setIfInBounds_toArray, List.set_cons_succ, List.set_cons_zero]
          refine gm_end_at rfl [] rfl (fun xs z hk => ?_)
          clear hk
          simp only [fillM, Act.put, List.setIfInBounds_toArray, List.set_cons_succ, List.set_cons_zero]
          have HXZ := Lib.hid (HX.out.trans (ext_ext wr z))
          go_wp2
          go_roundw
          case rel => exact ⟨k + 1, by omega, by go_num, HNE.out (by trivial), HXZ.out⟩
          case measure => (simp [intOf] <;> omega)
        · have hdx : decide (x = y) = false := decide_eq_false hxy
          have hq : bq = false := by rw [← HBQ.out]; exact HDF.out hxy
          subst hq
          go_wp2
          refine wp_region_m (by kernel_rfl) (by kernel_rfl) ?_; try simp only [Act.put, List.setIfInBounds_toArray, List.set_cons_succ, List.set_cons_zero]
          refine gq rfl rfl rfl rfl (fun K hK => ?_); go_big_quiet_op; refine hK _ ?_; clear hK K
          refine gq rfl rfl rfl rfl (fun K hK => ?_); go_big_quiet_op; refine hK _ ?_; clear hK K
          refine gq rfl rfl rfl rfl (fun K hK => ?_); go_big_quiet_op; refine hK _ ?_; clear hK K
          refine gx rfl rfl rfl rfl (Dig x) (fun z => exec_load27_at (.tmp 18) rfl b (o + k * 32) rfl x HXL.out _ (HCA.out z)) ?_
          simp only [Act.put, List.setIfInBounds_toArray, List.set_cons_succ, List.set_cons_zero]
          refine gq rfl rfl rfl rfl (fun K hK => ?_); go_big_quiet_op; refine hK _ ?_; clear hK K
          refine gq rfl rfl rfl rfl (fun K hK => ?_); go_big_quiet_op; refine hK _ ?_; clear hK K
          refine gq rfl rfl rfl rfl (fun K hK => ?_); go_big_quiet_op; refine hK _ ?_; clear hK K
          refine gx rfl rfl rfl rfl (Dig y) (fun z => exec_load27_at (.tmp 22) rfl b2 (o2 + k * 32) rfl y HYL.out _ (HCB.out z)) ?_
          simp only [Act.put, List.setIfInBounds_toArray, List.set_cons_succ, List.set_cons_zero]
          refine ge rfl rfl rfl rfl _ (exec_ne27 _ _ _ rfl x y rfl rfl HXL.out HYL.out) ?_
          simp only [hdx, Bool.not_false]
          simp only [Act.put, List.setIfInBounds_toArray, List.set_cons_succ, List.set_cons_zero]
          refine gm_end_at rfl [] rfl (fun xs z hk => ?_)
          clear hk
          simp only [fillM, Act.put, List.setIfInBounds_toArray, List.set_cons_succ, List.set_cons_zero]
          have HXZ := Lib.hid (HX.out.trans (ext_ext wr z))
          go_wp2
          go_ret
          exact ⟨rfl, HXZ.out⟩
      · obtain rfl : k = n := by omega
        have he : la = lb := by
          have h := HT.out
          rw [List.take_of_length_le (Nat.le_of_eq HLA.out), List.take_of_length_le (Nat.le_of_eq HLB.out)] at h
          exact h
        have hq : bq = true := by rw [← HBQ.out]; exact decide_eq_true he
        subst hq
        clear hx he
        go_wp2
        go_ret
        exact ⟨rfl, HX.out⟩
  · have he : ¬ la = lb := fun h => hl (by rw [h])
    have hq : bq = false := by rw [← HBQ.out]; exact decide_eq_false he
    subst hq
    have hli : ¬ (la.length : Int) = (lb.length : Int) := by omega
    go_enter Try.func111, Try.ntmps111
    go_wp2
    go_ret
    exact ⟨rfl, Ext.refl w⟩
end Go.Proofs.Ytapojpjmeadabaa
end

section
/- seal.Same, sacristanref08.Same. -/
namespace Go.Proofs.Ytapojpjmeadabaa
open Go.RowKit
set_option linter.unusedVariables false
set_option linter.unusedSimpArgs false
attribute [local go_sem] lt_ext cell?_ext frozen?_ext shape?_ext

def sameB (x y : Se) : Bool := decide (x.num = y.num) && decide (x.blk = y.blk) && decide (x.sl = y.sl) && decide (x.su = y.su)
set_option maxRecDepth 100000 in
set_option maxHeartbeats 1000000 in
theorem ssame_any (x y : Se) (w : World) (hx : SeR w x) (hy : SeR w y) :
    Calls Try.prog 78 #[x.v, y.v] w fun e w' => e = .returned (.bool (sameB x y)) ∧ Ext w w' := by
  obtain ⟨bq, hbq⟩ : ∃ bq, sameB x y = bq := ⟨_, rfl⟩
  obtain ⟨num, blk, sl, su, sv, gv⟩ := x
  obtain ⟨num', blk', sl', su', sv', gv'⟩ := y
  obtain ⟨A, cap, e1, _, _, _, _⟩ := hx.sl.is
  obtain ⟨A2, cap2, e2, _, _, _, _⟩ := hx.su.rd.is
  obtain ⟨A', cap', e3, _, _, _, _⟩ := hy.sl.is
  obtain ⟨A2', cap2', e4, _, _, _, _⟩ := hy.su.rd.is
  simp only at e1 e2 e3 e4
  subst e1; subst e2; subst e3; subst e4
  have HS : Hid (Bs w (.slice A sl.length cap) sl) := Lib.hid hx.sl
  have HS' : Hid (Bs w (.slice A' sl'.length cap') sl') := Lib.hid hy.sl
  have HG : Hid (Dgs w (.slice A2 su.length cap2) su) := Lib.hid hx.su
  have HG' : Hid (Dgs w (.slice A2' su'.length cap2') su') := Lib.hid hy.su
  rw [hbq]
  have HBQ : Hid ((decide (num = num') && decide (blk = blk') && decide (sl = sl') && decide (su = su')) = bq) := Lib.hid hbq
  clear hx hy hbq
  show Calls Try.prog 78 #[.agg #[.int .u64 (num : Int), .int .i64 blk, .slice A sl.length cap, .slice A2 su.length cap2], .agg #[.int .u64 (num' : Int), .int .i64 blk', .slice A' sl'.length cap', .slice A2' su'.length cap2']] w _
  have HX : Hid (Ext w ((w.alloc (.cells #[.int .u64 (num : Int), .int .i64 blk, .slice A sl.length cap, .slice A2 su.length cap2] 68)).alloc (.cells #[.int .u64 (num' : Int), .int .i64 blk', .slice A' sl'.length cap', .slice A2' su'.length cap2'] 68))) := Lib.hid (((Ext.refl w).alloc _).alloc _)
  have WB : Hid (∀ w1, Ext ((w.alloc (.cells #[.int .u64 (num : Int), .int .i64 blk, .slice A sl.length cap, .slice A2 su.length cap2] 68)).alloc (.cells #[.int .u64 (num' : Int), .int .i64 blk', .slice A' sl'.length cap', .slice A2' su'.length cap2'] 68)) w1 → w1.cell? ⟨w.heap.size, 3, none⟩ = some (.slice A2 su.length cap2) ∧ w1.cell? ⟨w.heap.size + 1, 3, none⟩ = some (.slice A2' su'.length cap2')) := Lib.hid (fun w1 hx1 => by
    have h1 := (hx1.block (k := w.heap.size) (by simp <;> omega)).trans ((((Ext.refl (w.alloc (.cells #[.int .u64 (num : Int), .int .i64 blk, .slice A sl.length cap, .slice A2 su.length cap2] 68))).alloc (.cells #[.int .u64 (num' : Int), .int .i64 blk', .slice A' sl'.length cap', .slice A2' su'.length cap2'] 68)).block (k := w.heap.size) (by simp)).trans (heap_alloc_last w _))
    have h2 := heap_alloc_last (w.alloc (.cells #[.int .u64 (num : Int), .int .i64 blk, .slice A sl.length cap, .slice A2 su.length cap2] 68)) (.cells #[.int .u64 (num' : Int), .int .i64 blk', .slice A' sl'.length cap', .slice A2' su'.length cap2'] 68)
    rw [World.size_alloc] at h2
    have h3 := (hx1.block (k := w.heap.size + 1) (by simp)).trans h2
    exact ⟨by rw [cell_of_row _ _ _ _ _ _ h1]; rfl, by rw [cell_of_row _ _ _ _ _ _ h3]; rfl⟩)
  obtain ⟨d1, hd1⟩ : ∃ d, decide (sl = sl') = d := ⟨_, rfl⟩
  obtain ⟨d2, hd2⟩ : ∃ d, decide (su = su') = d := ⟨_, rfl⟩
  have HD1 := Lib.hid hd1
  have HD2 := Lib.hid hd2
  rw [hd1, hd2] at HBQ
  clear hd1 hd2
  have key : (num ≠ num') ∨ (num = num' ∧ blk ≠ blk') ∨ (num = num' ∧ blk = blk' ∧ d1 = false) ∨ (num = num' ∧ blk = blk' ∧ d1 = true) := by
    by_cases hn : num = num'
    · by_cases hk : blk = blk'
      · cases d1
        · exact .inr (.inr (.inl ⟨hn, hk, rfl⟩))
        · exact .inr (.inr (.inr ⟨hn, hk, rfl⟩))
      · exact .inr (.inl ⟨hn, hk⟩)
    · exact .inl hn
  rcases key with hn | ⟨rfl, hk⟩ | ⟨rfl, rfl, rfl⟩ | ⟨rfl, rfl, rfl⟩
  · have hq : bq = false := by rw [← HBQ.out, decide_eq_false hn]; simp
    subst hq
    have hni : ¬ (num : Int) = (num' : Int) := by omega
    go_enter Try.func78, Try.ntmps78
    go_wp2_with (first | (go_at_call 110; go_must (refine (sequal_any _ _ sl sl' _ (Rd.ext HS.out HX.out) (Rd.ext HS'.out HX.out)).mono ?_; rintro e w1 ⟨rfl, hx1⟩; rw [HD1.out]; have HX1 := Lib.hid (HX.out.trans hx1); have hw1 := WB.out w1 hx1; obtain ⟨c13, c23⟩ := hw1; clear hx1)) | (go_at_call 111; go_must (refine (sequald_any _ _ su su' _ (HG.out.ext HX1.out) (HG'.out.ext HX1.out)).mono ?_; rintro e w2 ⟨rfl, hx2⟩; rw [HD2.out]; have HX2 := Lib.hid (HX1.out.trans hx2); clear hx2)))
    go_ret
    exact ⟨rfl, HX.out⟩
  · have hq : bq = false := by rw [← HBQ.out, decide_eq_false hk]; simp
    subst hq
    go_enter Try.func78, Try.ntmps78
    go_wp2_with (first | (go_at_call 110; go_must (refine (sequal_any _ _ sl sl' _ (Rd.ext HS.out HX.out) (Rd.ext HS'.out HX.out)).mono ?_; rintro e w1 ⟨rfl, hx1⟩; rw [HD1.out]; have HX1 := Lib.hid (HX.out.trans hx1); have hw1 := WB.out w1 hx1; obtain ⟨c13, c23⟩ := hw1; clear hx1)) | (go_at_call 111; go_must (refine (sequald_any _ _ su su' _ (HG.out.ext HX1.out) (HG'.out.ext HX1.out)).mono ?_; rintro e w2 ⟨rfl, hx2⟩; rw [HD2.out]; have HX2 := Lib.hid (HX1.out.trans hx2); clear hx2)))
    go_ret
    exact ⟨rfl, HX.out⟩
  · have hq : bq = false := by rw [← HBQ.out]; simp
    subst hq
    go_enter Try.func78, Try.ntmps78
    go_wp2_with (first | (go_at_call 110; go_must (refine (sequal_any _ _ sl sl' _ (Rd.ext HS.out HX.out) (Rd.ext HS'.out HX.out)).mono ?_; rintro e w1 ⟨rfl, hx1⟩; rw [HD1.out]; have HX1 := Lib.hid (HX.out.trans hx1); have hw1 := WB.out w1 hx1; obtain ⟨c13, c23⟩ := hw1; clear hx1)) | (go_at_call 111; go_must (refine (sequald_any _ _ su su' _ (HG.out.ext HX1.out) (HG'.out.ext HX1.out)).mono ?_; rintro e w2 ⟨rfl, hx2⟩; rw [HD2.out]; have HX2 := Lib.hid (HX1.out.trans hx2); clear hx2)))
    go_ret
    exact ⟨rfl, HX1.out⟩
  · have hq : bq = d2 := by rw [← HBQ.out]; simp
    subst hq
    go_enter Try.func78, Try.ntmps78
    go_wp2_with (first | (go_at_call 110; go_must (refine (sequal_any _ _ sl sl' _ (Rd.ext HS.out HX.out) (Rd.ext HS'.out HX.out)).mono ?_; rintro e w1 ⟨rfl, hx1⟩; rw [HD1.out]; have HX1 := Lib.hid (HX.out.trans hx1); have hw1 := WB.out w1 hx1; obtain ⟨c13, c23⟩ := hw1; clear hx1)) | (go_at_call 111; go_must (refine (sequald_any _ _ su su' _ (HG.out.ext HX1.out) (HG'.out.ext HX1.out)).mono ?_; rintro e w2 ⟨rfl, hx2⟩; rw [HD2.out]; have HX2 := Lib.hid (HX1.out.trans hx2); clear hx2)))
    go_ret
    exact ⟨rfl, HX2.out⟩
end Go.Proofs.Ytapojpjmeadabaa
end

section
/- sacristanref08.Same where all but the digests is the same: the loop. -/
namespace Go.Proofs.Ytapojpjmeadabaa
open Go.RowKit
set_option linter.unusedVariables false
set_option linter.unusedSimpArgs false
attribute [local go_sem] lt_ext cell?_ext frozen?_ext shape?_ext

theorem exec_ne9 {o : Oper} {ρ : Operand → Value} (p q : Operand) (t : TypeId) (ho : o.op = .binOp .neq 9 p q t) (l l' : List UInt8) (hp : ρ p = Str l) (hq : ρ q = Str l') (w : World) :
    (execOp ρ o).run Try.prog w = .ok (.value (.bool (!decide (l = l')))) w := by
  have hg : Try.prog.eqGuardType Try.prog.depth 9 = false := by kernel_rfl
  unfold execOp
  simp only [ho, hp, hq]
  unfold Str
  simp [eqGuard, Sem.run_bind, hg, binOp_string_neq, ByteArray.toList_eq]
  by_cases h : l = l' <;> simp [h]
set_option maxRecDepth 100000 in
set_option maxHeartbeats 4000000 in
theorem rsame_loop (num : Nat) (blk : Int) (sl : List UInt8) (su su' : List (List UInt8)) (n : Nat) (hnl : n ≤ 140737488355328) (A A' A2 A2' : Option Addr) (cap cap' cap2 cap2' : Nat) (w : World)
    (hS : Bs w (.slice A sl.length cap) sl) (hS' : Bs w (.slice A' sl.length cap') sl) (hG : Dgs w (.slice A2 n cap2) su) (hG' : Dgs w (.slice A2' n cap2') su') :
    Calls Try.prog 66 #[.agg #[.int .u64 (num : Int), .int .i64 blk, .slice A sl.length cap, .slice A2 n cap2], .agg #[.int .u64 (num : Int), .int .i64 blk, .slice A' sl.length cap', .slice A2' n cap2']] w fun e w' => e = .returned (.bool (decide (su = su'))) ∧ Ext w w' := by
  obtain ⟨bq, hbq⟩ : ∃ bq, decide (su = su') = bq := ⟨_, rfl⟩
  have HBQ := Lib.hid hbq
  rw [hbq]
  have hn1 : su.length = n := by
    obtain ⟨_, _, e, _⟩ := hG.rd.is
    injection e with _ e _
    exact e.symm
  have hn2 : su'.length = n := by
    obtain ⟨_, _, e, _⟩ := hG'.rd.is
    injection e with _ e _
    exact e.symm
  have HLA := Lib.hid hn1
  have HLB := Lib.hid hn2
  have HS := Lib.hid hS
  have HS' := Lib.hid hS'
  have HG := Lib.hid hG
  have HG' := Lib.hid hG'
  have hx0 : Ext w ((w.alloc (.cells #[.int .u64 (num : Int), .int .i64 blk, .slice A sl.length cap, .slice A2 n cap2] 68)).alloc (.cells #[.int .u64 (num : Int), .int .i64 blk, .slice A' sl.length cap', .slice A2' n cap2'] 68)) := ((Ext.refl w).alloc _).alloc _
  have HX := Lib.hid hx0
  have WB : Hid (∀ w1, Ext ((w.alloc (.cells #[.int .u64 (num : Int), .int .i64 blk, .slice A sl.length cap, .slice A2 n cap2] 68)).alloc (.cells #[.int .u64 (num : Int), .int .i64 blk, .slice A' sl.length cap', .slice A2' n cap2'] 68)) w1 → w1.cell? ⟨w.heap.size, 3, none⟩ = some (.slice A2 n cap2) ∧ w1.cell? ⟨w.heap.size + 1, 3, none⟩ = some (.slice A2' n cap2') ∧ w.heap.size + 1 < w1.heap.size) := Lib.hid (fun w1 hx1 => by
    have h1 := (hx1.block (k := w.heap.size) (by simp <;> omega)).trans ((((Ext.refl (w.alloc (.cells #[.int .u64 (num : Int), .int .i64 blk, .slice A sl.length cap, .slice A2 n cap2] 68))).alloc (.cells #[.int .u64 (num : Int), .int .i64 blk, .slice A' sl.length cap', .slice A2' n cap2'] 68)).block (k := w.heap.size) (by simp)).trans (heap_alloc_last w _))
    have h2 := heap_alloc_last (w.alloc (.cells #[.int .u64 (num : Int), .int .i64 blk, .slice A sl.length cap, .slice A2 n cap2] 68)) (.cells #[.int .u64 (num : Int), .int .i64 blk, .slice A' sl.length cap', .slice A2' n cap2'] 68)
    rw [World.size_alloc] at h2
    have h3 := (hx1.block (k := w.heap.size + 1) (by simp)).trans h2
    exact ⟨by rw [cell_of_row _ _ _ _ _ _ h1]; rfl, by rw [cell_of_row _ _ _ _ _ _ h3]; rfl, (Array.getElem?_eq_some_iff.1 h3).1⟩)
  clear hbq hS hS' hG hG' hx0 hn1 hn2
  go_enter Try.func66, Try.ntmps66
  go_wp2_with (first | (refine wpl_v ?_ _ (exec_str (.tmp 20) rfl (.slice A sl.length cap) rfl sl _ (Rd.ext HS.out HX.out)) ?_; rfl) | (refine wpl_v ?_ _ (exec_str (.tmp 23) rfl (.slice A' sl.length cap') rfl sl _ (Rd.ext HS'.out HX.out)) ?_; rfl; go_must (refine wpl_v rfl _ (exec_ne9 (.tmp 21) (.tmp 24) _ rfl sl sl rfl rfl _) ?_; simp only [decide_true, Bool.not_true])))
  generalize (w.alloc (.cells #[.int .u64 (num : Int), .int .i64 blk, .slice A sl.length cap, .slice A2 n cap2] 68)).alloc (.cells #[.int .u64 (num : Int), .int .i64 blk, .slice A' sl.length cap', .slice A2' n cap2'] 68) = W0 at *
  go_loopw [5] (fun i wr => ∃ k : Nat, k ≤ n ∧ i = .int .i64 k ∧ su.take k = su'.take k ∧ Ext W0 wr) (fun i _ => n - (intOf i).toNat)
  case atStart => exact ⟨0, by omega, rfl, by simp, Ext.refl W0⟩
  case round =>
    obtain ⟨k, hk, rfl, ht, hx⟩ := hrel
    obtain ⟨c3, c3', hl1⟩ := WB.out wr hx
    have hl0 : w.heap.size < wr.heap.size := by omega
    have HXR := Lib.hid hx
    have HT := Lib.hid ht
    clear ht
    by_cases hlt : k < n
    · obtain ⟨b, o, capq, hA, hbl, hxl, hca0⟩ := HG.out.at_ k (by have := HLA.out; omega)
      injection hA with hA1 hA2 hA3
      subst hA1
      subst hA3
      obtain ⟨b2, o2, capq2, hB, hbl2, hyl, hcb0⟩ := HG'.out.at_ k (by have := HLB.out; omega)
      injection hB with hB1 hB2 hB3
      subst hB1
      subst hB3
      have hwr : Ext w wr := HX.out.trans hx
      have HCA : Hid (∀ z : Grow wr, ∀ j u, (su.getD k [])[j]? = some u → (wr.ext z).cell? ⟨b, o + k * 32 + j, none⟩ = some (B8 u)) := Lib.hid (fun z j u hj => ((hwr.trans (ext_ext wr z)).cell b (o + k * 32 + j) hbl).trans (hca0 j u hj))
      have HCB : Hid (∀ z : Grow wr, ∀ j u, (su'.getD k [])[j]? = some u → (wr.ext z).cell? ⟨b2, o2 + k * 32 + j, none⟩ = some (B8 u)) := Lib.hid (fun z j u hj => ((hwr.trans (ext_ext wr z)).cell b2 (o2 + k * 32 + j) hbl2).trans (hcb0 j u hj))
      have HXL := Lib.hid hxl
      have HYL := Lib.hid hyl
      have HNE : Hid (su.getD k [] = su'.getD k [] → su.take (k + 1) = su'.take (k + 1)) := Lib.hid (fun he => take_next_eq su su' k (by have := HLA.out; omega) (by have := HLB.out; omega) HT.out he)
      have HDF : Hid (¬ su.getD k [] = su'.getD k [] → decide (su = su') = false) := Lib.hid (fun he => decide_eq_false (differ_at su su' k he))
      clear hA2 hB2 hca0 hcb0 hxl hyl hx hwr
      generalize su.getD k [] = x at *
      generalize su'.getD k [] = y at *
      by_cases hxy : x = y
      · subst hxy
        go_wp2
        refine wp_region_m (by kernel_rfl) (by kernel_rfl) ?_; try simp only [Act.put, List.setIfInBounds_toArray, List.set_cons_succ, List.set_cons_zero]
        refine gq rfl rfl rfl rfl (fun K hK => ?_); go_big_quiet_op; refine hK _ ?_; clear hK K
        refine gq rfl rfl rfl rfl (fun K hK => ?_); go_big_quiet_op; refine hK _ ?_; clear hK K
        refine gq rfl rfl rfl rfl (fun K hK => ?_); go_big_quiet_op; refine hK _ ?_; clear hK K
        refine gq rfl rfl rfl rfl (fun K hK => ?_); go_big_quiet_op; refine hK _ ?_; clear hK K
        refine gx rfl rfl rfl rfl (Dig x) (fun z => exec_load27_at (.tmp 46) rfl b (o + k * 32) rfl x HXL.out _ (HCA.out z)) ?_
        simp only [Act.put, List.setIfInBounds_toArray, List.set_cons_succ, List.set_cons_zero]
        refine gq rfl rfl rfl rfl (fun K hK => ?_); go_big_quiet_op; refine hK _ ?_; clear hK K
        refine gq rfl rfl rfl rfl (fun K hK => ?_); go_big_quiet_op; refine hK _ ?_; clear hK K
        refine gq rfl rfl rfl rfl (fun K hK => ?_); go_big_quiet_op; refine hK _ ?_; clear hK K
        refine gq rfl rfl rfl rfl (fun K hK => ?_); go_big_quiet_op; refine hK _ ?_; clear hK K
        refine gx rfl rfl rfl rfl (Dig x) (fun z => exec_load27_at (.tmp 51) rfl b2 (o2 + k * 32) rfl x HYL.out _ (HCB.out z)) ?_
        simp only [Act.put, List.setIfInBounds_toArray, List.set_cons_succ, List.set_cons_zero]
        refine ge rfl rfl rfl rfl _ (exec_ne27 _ _ _ rfl x x rfl rfl HXL.out HYL.out) ?_
        simp only [decide_true, Bool.not_true]
        simp only [Act.put, List.setIfInBounds_toArray, List.set_cons_succ, List.set_cons_zero]
        refine gm_end_at rfl [] rfl (fun xs z hk => ?_)
        clear hk
        simp only [fillM, Act.put, List.setIfInBounds_toArray, List.set_cons_succ, List.set_cons_zero]
        have HXZ := Lib.hid (HXR.out.trans (ext_ext wr z))
        go_wp2
        go_roundw
        case rel => exact ⟨k + 1, by omega, by go_num, HNE.out (by trivial), HXZ.out⟩
        case measure => (simp [intOf] <;> omega)
      · have hdx : decide (x = y) = false := decide_eq_false hxy
        have hq : bq = false := by rw [← HBQ.out]; exact HDF.out hxy
        subst hq
        go_wp2
        refine wp_region_m (by kernel_rfl) (by kernel_rfl) ?_; try simp only [Act.put, List.setIfInBounds_toArray, List.set_cons_succ, List.set_cons_zero]
        refine gq rfl rfl rfl rfl (fun K hK => ?_); go_big_quiet_op; refine hK _ ?_; clear hK K
        refine gq rfl rfl rfl rfl (fun K hK => ?_); go_big_quiet_op; refine hK _ ?_; clear hK K
        refine gq rfl rfl rfl rfl (fun K hK => ?_); go_big_quiet_op; refine hK _ ?_; clear hK K
        refine gq rfl rfl rfl rfl (fun K hK => ?_); go_big_quiet_op; refine hK _ ?_; clear hK K
        refine gx rfl rfl rfl rfl (Dig x) (fun z => exec_load27_at (.tmp 46) rfl b (o + k * 32) rfl x HXL.out _ (HCA.out z)) ?_
        simp only [Act.put, List.setIfInBounds_toArray, List.set_cons_succ, List.set_cons_zero]
        refine gq rfl rfl rfl rfl (fun K hK => ?_); go_big_quiet_op; refine hK _ ?_; clear hK K
        refine gq rfl rfl rfl rfl (fun K hK => ?_); go_big_quiet_op; refine hK _ ?_; clear hK K
        refine gq rfl rfl rfl rfl (fun K hK => ?_); go_big_quiet_op; refine hK _ ?_; clear hK K
        refine gq rfl rfl rfl rfl (fun K hK => ?_); go_big_quiet_op; refine hK _ ?_; clear hK K
        refine gx rfl rfl rfl rfl (Dig y) (fun z => exec_load27_at (.tmp 51) rfl b2 (o2 + k * 32) rfl y HYL.out _ (HCB.out z)) ?_
        simp only [Act.put, List.setIfInBounds_toArray, List.set_cons_succ, List.set_cons_zero]
        refine ge rfl rfl rfl rfl _ (exec_ne27 _ _ _ rfl x y rfl rfl HXL.out HYL.out) ?_
        simp only [hdx, Bool.not_false]
        simp only [Act.put, List.setIfInBounds_toArray, List.set_cons_succ, List.set_cons_zero]
        refine gm_end_at rfl [] rfl (fun xs z hk => ?_)
        clear hk
        simp only [fillM, Act.put, List.setIfInBounds_toArray, List.set_cons_succ, List.set_cons_zero]
        have HXZ := Lib.hid (HX.out.trans (HXR.out.trans (ext_ext wr z)))
        go_wp2
        go_ret
        exact ⟨rfl, HXZ.out⟩
    · obtain rfl : k = n := by omega
      have he : su = su' := by
        have h := HT.out
        rw [List.take_of_length_le (Nat.le_of_eq HLA.out), List.take_of_length_le (Nat.le_of_eq HLB.out)] at h
        exact h
      have hq : bq = true := by rw [← HBQ.out]; exact decide_eq_true he
      subst hq
      clear hx he
      go_wp2
      go_ret
      exact ⟨rfl, HX.out.trans HXR.out⟩
end Go.Proofs.Ytapojpjmeadabaa
end

section
/- sacristanref08.Same. -/
namespace Go.Proofs.Ytapojpjmeadabaa
open Go.RowKit
set_option linter.unusedVariables false
set_option linter.unusedSimpArgs false
attribute [local go_sem] lt_ext cell?_ext frozen?_ext shape?_ext

set_option maxRecDepth 100000 in
set_option maxHeartbeats 8000000 in
theorem rsame_any (x y : Se) (w : World) (hx : SeR w x) (hy : SeR w y) (hl1 : x.su.length ≤ 140737488355328) :
    Calls Try.prog 66 #[x.v, y.v] w fun e w' => e = .returned (.bool (sameB x y)) ∧ Ext w w' := by
  obtain ⟨bq, hbq⟩ : ∃ bq, sameB x y = bq := ⟨_, rfl⟩
  obtain ⟨num, blk, sl, su, sv, gv⟩ := x
  obtain ⟨num', blk', sl', su', sv', gv'⟩ := y
  obtain ⟨A, cap, e1, _, _, _, _⟩ := hx.sl.is
  obtain ⟨A2, cap2, e2, _, _, _, _⟩ := hx.su.rd.is
  obtain ⟨A', cap', e3, _, _, _, _⟩ := hy.sl.is
  obtain ⟨A2', cap2', e4, _, _, _, _⟩ := hy.su.rd.is
  simp only at e1 e2 e3 e4 hl1
  subst e1; subst e2; subst e3; subst e4
  have HS : Hid (Bs w (.slice A sl.length cap) sl) := Lib.hid hx.sl
  have HS' : Hid (Bs w (.slice A' sl'.length cap') sl') := Lib.hid hy.sl
  have HG : Hid (Dgs w (.slice A2 su.length cap2) su) := Lib.hid hx.su
  have HG' : Hid (Dgs w (.slice A2' su'.length cap2') su') := Lib.hid hy.su
  rw [hbq]
  have HBQ : Hid ((decide (num = num') && decide (blk = blk') && decide (sl = sl') && decide (su = su')) = bq) := Lib.hid hbq
  clear hx hy hbq
  show Calls Try.prog 66 #[.agg #[.int .u64 (num : Int), .int .i64 blk, .slice A sl.length cap, .slice A2 su.length cap2], .agg #[.int .u64 (num' : Int), .int .i64 blk', .slice A' sl'.length cap', .slice A2' su'.length cap2']] w _
  have HX : Hid (Ext w ((w.alloc (.cells #[.int .u64 (num : Int), .int .i64 blk, .slice A sl.length cap, .slice A2 su.length cap2] 68)).alloc (.cells #[.int .u64 (num' : Int), .int .i64 blk', .slice A' sl'.length cap', .slice A2' su'.length cap2'] 68))) := Lib.hid (((Ext.refl w).alloc _).alloc _)
  have WB : Hid (∀ w1, Ext ((w.alloc (.cells #[.int .u64 (num : Int), .int .i64 blk, .slice A sl.length cap, .slice A2 su.length cap2] 68)).alloc (.cells #[.int .u64 (num' : Int), .int .i64 blk', .slice A' sl'.length cap', .slice A2' su'.length cap2'] 68)) w1 → w1.cell? ⟨w.heap.size, 3, none⟩ = some (.slice A2 su.length cap2) ∧ w1.cell? ⟨w.heap.size + 1, 3, none⟩ = some (.slice A2' su'.length cap2') ∧ w.heap.size + 1 < w1.heap.size) := Lib.hid (fun w1 hx1 => by
    have h1 := (hx1.block (k := w.heap.size) (by simp <;> omega)).trans ((((Ext.refl (w.alloc (.cells #[.int .u64 (num : Int), .int .i64 blk, .slice A sl.length cap, .slice A2 su.length cap2] 68))).alloc (.cells #[.int .u64 (num' : Int), .int .i64 blk', .slice A' sl'.length cap', .slice A2' su'.length cap2'] 68)).block (k := w.heap.size) (by simp)).trans (heap_alloc_last w _))
    have h2 := heap_alloc_last (w.alloc (.cells #[.int .u64 (num : Int), .int .i64 blk, .slice A sl.length cap, .slice A2 su.length cap2] 68)) (.cells #[.int .u64 (num' : Int), .int .i64 blk', .slice A' sl'.length cap', .slice A2' su'.length cap2'] 68)
    rw [World.size_alloc] at h2
    have h3 := (hx1.block (k := w.heap.size + 1) (by simp)).trans h2
    exact ⟨by rw [cell_of_row _ _ _ _ _ _ h1]; rfl, by rw [cell_of_row _ _ _ _ _ _ h3]; rfl, (Array.getElem?_eq_some_iff.1 h3).1⟩)
  obtain ⟨d1, hd1⟩ : ∃ d, (!decide (sl = sl')) = d := ⟨_, rfl⟩
  have HD1 := Lib.hid hd1
  have key : (num ≠ num') ∨ (num = num' ∧ blk ≠ blk') ∨ (num = num' ∧ blk = blk' ∧ d1 = true) ∨ (num = num' ∧ blk = blk' ∧ d1 = false ∧ su.length ≠ su'.length) ∨ (num = num' ∧ blk = blk' ∧ d1 = false ∧ su.length = su'.length) := by
    by_cases hn : num = num'
    · by_cases hk : blk = blk'
      · cases d1
        · by_cases hs : su.length = su'.length
          · exact .inr (.inr (.inr (.inr ⟨hn, hk, rfl, hs⟩)))
          · exact .inr (.inr (.inr (.inl ⟨hn, hk, rfl, hs⟩)))
        · exact .inr (.inr (.inl ⟨hn, hk, rfl⟩))
      · exact .inr (.inl ⟨hn, hk⟩)
    · exact .inl hn
  clear hd1
  rcases key with hn | ⟨rfl, hk⟩ | ⟨rfl, rfl, rfl⟩ | ⟨rfl, rfl, rfl, hs⟩ | ⟨rfl, rfl, rfl, hs⟩
  · have hq : bq = false := by rw [← HBQ.out, decide_eq_false hn]; simp
    subst hq
    have hni : ¬ (num : Int) = (num' : Int) := by omega
    go_enter Try.func66, Try.ntmps66
    go_wp2
    go_ret
    exact ⟨rfl, HX.out⟩
  · have hq : bq = false := by rw [← HBQ.out, decide_eq_false hk]; simp
    subst hq
    go_enter Try.func66, Try.ntmps66
    go_wp2
    go_ret
    exact ⟨rfl, HX.out⟩
  · have hq : bq = false := by
      have h := HD1.out
      rw [← HBQ.out]
      simp at h
      simp [h]
    subst hq
    go_enter Try.func66, Try.ntmps66
    go_wp2_with (first | (refine wpl_v ?_ _ (exec_str (.tmp 20) rfl (.slice A sl.length cap) rfl sl _ (Rd.ext HS.out HX.out)) ?_; rfl) | (refine wpl_v ?_ _ (exec_str (.tmp 23) rfl (.slice A' sl'.length cap') rfl sl' _ (Rd.ext HS'.out HX.out)) ?_; rfl; go_must (refine wpl_v rfl _ (exec_ne9 (.tmp 21) (.tmp 24) _ rfl sl sl' rfl rfl _) ?_; rw [HD1.out])))
    go_ret
    exact ⟨rfl, HX.out⟩
  · have hq : bq = false := by rw [← HBQ.out, decide_eq_false (fun h : su = su' => hs (by rw [h]))]; simp
    subst hq
    have hsi : ¬ (su.length : Int) = (su'.length : Int) := by omega
    go_enter Try.func66, Try.ntmps66
    go_wp2_with (first | (refine wpl_v ?_ _ (exec_str (.tmp 20) rfl (.slice A sl.length cap) rfl sl _ (Rd.ext HS.out HX.out)) ?_; rfl) | (refine wpl_v ?_ _ (exec_str (.tmp 23) rfl (.slice A' sl'.length cap') rfl sl' _ (Rd.ext HS'.out HX.out)) ?_; rfl; go_must (refine wpl_v rfl _ (exec_ne9 (.tmp 21) (.tmp 24) _ rfl sl sl' rfl rfl _) ?_; rw [HD1.out])))
    go_ret
    exact ⟨rfl, HX.out⟩
  · have hsl : sl = sl' := by
      have h := HD1.out
      simpa using h
    subst hsl
    have hq : bq = decide (su = su') := by rw [← HBQ.out]; simp
    subst hq
    have h := rsame_loop num blk sl su su' su.length hl1 A A' A2 A2' cap cap' cap2 cap2' w HS.out HS'.out HG.out (by rw [hs]; exact HG'.out)
    rw [← hs]
    exact h
end Go.Proofs.Ytapojpjmeadabaa
end

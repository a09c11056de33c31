/- Small functions on bytes: sacristanref00.Same, Copy; sacristanref03.Slice, pad; codec.Pad, Equal. -/
import Derived.Test.YtapojpjmeadabaaStr
namespace Go.Proofs.Ytapojpjmeadabaa
open Go.RowKit
set_option linter.unusedVariables false
set_option linter.unusedSimpArgs false
attribute [local go_sem] lt_ext cell?_ext frozen?_ext shape?_ext
attribute [local go_sem] u8_xor u8_or i8_mod u8_wrap

theorem wpl_exec {ops : Array Oper} {rest : List Oper} {o : Oper} {a : Act} {w : World} {Q : Exit → Act → World → Prop} (hgd : o.guard = none) (v : Value)
    (hr : (execOp a.eval o).run Try.prog w = .ok (.value v) w) (h : wpList Try.prog ops Q rest (a.put o.dst v) w) : wpList Try.prog ops Q (o :: rest) a w :=
  wpl_v (by simp [Region.wanted, hgd]) v hr h
set_option maxRecDepth 100000 in
set_option maxHeartbeats 1000000 in
theorem same_any (va vb : Value) (la lb : List UInt8) (w : World) (hA : Bs w va la) (hB : Bs w vb lb) :
    Calls Try.prog 49 #[va, vb] w fun e w' => e = .returned (.bool (decide (la = lb))) ∧ w = w' := by
  have HA := Lib.hid hA
  have HB := Lib.hid hB
  clear hA hB
  go_enter Try.func49, Try.ntmps49
  go_wp2_with (first | (refine wpl_exec rfl _ (exec_str (.tmp 5) rfl va rfl la _ HA.out) ?_) | (refine wpl_exec rfl _ (exec_str (.tmp 7) rfl vb rfl lb _ HB.out) ?_) | (refine wpl_exec rfl _ (exec_eq9 (.tmp 6) (.tmp 8) _ rfl la lb rfl rfl _) ?_))
  go_ret
  exact ⟨rfl, rfl⟩
set_option maxRecDepth 100000 in
set_option maxHeartbeats 1000000 in
theorem copy0_any (v : Value) (l : List UInt8) (w : World) (hB : Bs w v l) (hl : l.length ≤ 4294967296) :
    Calls Try.prog 51 #[v] w fun e w' => ∃ v', e = .returned v' ∧ NewB w v' l w' := by
  have HB := Lib.hid hB
  clear hB
  go_enter Try.func51, Try.ntmps51
  go_wp2_with (at_builtin; go_must (refine wpList_append_bs rfl _ _ rfl (.slice none 0 0) rfl (l := []) (Own.nil _ _ _) _ rfl HB.out (by simp; omega) ?_; intro v1 w1 ho1 hg1 hf1; have HN1 := Lib.hid ((NewB.nil (Ext.refl w)).app ho1 hg1 hf1); rw [List.nil_append] at HN1; clear ho1 hg1 hf1))
  go_ret
  exact ⟨_, rfl, HN1.out⟩
set_option maxRecDepth 100000 in
set_option maxHeartbeats 1000000 in
theorem slice_any (D : List UInt8) (hD : D.length = 32) (w : World) :
    Calls Try.prog 50 #[Dig D] w fun e w' => ∃ v, e = .returned v ∧ NewB w v D w' := by
  have HD := Lib.hid hD
  clear hD
  go_enter Try.func50, Try.ntmps50
  go_wp2
  have hb0 : Blk (w.alloc (.cells (row8 D) 27)) w.heap.size 27 D := heap_alloc_last w _
  have hx0 : Ext w (w.alloc (.cells (row8 D) 27)) := (Ext.refl w).alloc _
  generalize w.alloc (.cells (row8 D) 27) = w0 at *
  have HB0 := Lib.hid hb0
  have HX0 := Lib.hid hx0
  clear hb0 hx0
  go_loopw [3, 4] (fun v i wr => ∃ (k : Nat), k ≤ 32 ∧ i = .int .i64 k ∧ NewB w0 v (D.take k) wr) (fun _ i _ => 32 - (intOf i).toNat)
  case atStart => exact ⟨0, by omega, rfl, NewB.nil (Ext.refl w0)⟩
  case round =>
    obtain ⟨k, hk, rfl, hnew⟩ := hrel
    have HN := Lib.hid hnew
    by_cases hlt : k < 32
    · have hB := HB0.out.ext hnew.ext
      have hcell := hB.cell k (by have := HD.out; omega)
      have hbl := hB.lt
      have HS : Hid (D.take (k + 1) = D.take k ++ [D.getD k 0]) := Lib.hid (by rw [List.take_add_one]; congr 1; have := HD.out; simp [List.getElem?_eq_getElem (show k < D.length by omega)])
      have hll : (D.take k).length ≤ 32 := by simp; omega
      generalize D.getD k 0 = x at *
      clear hnew hB
      go_wp2_with (at_builtin; go_must (refine wpList_append_bs rfl _ _ rfl _ rfl (HN.out.grow ((Ext.refl wr).alloc _)).own _ rfl (Bs.lit_new wr _ [x] (one_cells _) (by simp)) (by simp; omega) ?_; intro v1 w1 ho1 hg1 hf1; have HN1 := Lib.hid ((HN.out.grow ((Ext.refl wr).alloc _)).app ho1 hg1 hf1); clear ho1 hg1 hf1))
      go_roundw
      case rel => exact ⟨k + 1, by omega, by go_num, by rw [HS.out]; exact HN1.out⟩
      case measure => simp [intOf]; omega
    · obtain rfl : k = 32 := by omega
      have e : D.take 32 = D := List.take_of_length_le (by have := HD.out; omega)
      rw [e] at HN
      clear hnew e
      go_wp2
      go_ret
      exact ⟨_, rfl, HN.out.own, HX0.out.trans HN.out.ext, fun g hg => Nat.le_trans HX0.out.size (HN.out.fr g hg)⟩
def kpad (l : List UInt8) (c : UInt8) (k : Nat) : List UInt8 := (Sha.pad l c).take k
theorem pad_length (l : List UInt8) (c : UInt8) (hl : l.length ≤ 64) : (Sha.pad l c).length = 64 := by simp [Sha.pad, Sha.zeros]; omega
theorem kpad_next (l : List UInt8) (c : UInt8) (hl : l.length ≤ 64) (k : Nat) (hk : k < 64) : kpad l c (k + 1) = kpad l c k ++ [(l.getD k 0) ^^^ c] := by
  unfold kpad
  rw [List.take_add_one]
  congr 1
  have h := pad_length l c hl
  rw [List.getElem?_eq_getElem (by omega)]
  simp only [Option.toList_some, List.cons.injEq, and_true]
  simp only [Sha.pad, List.getElem_map]
  congr 1
  by_cases hkl : k < l.length
  · rw [List.getElem_append_left hkl]; simp [hkl]
  · rw [List.getElem_append_right (by omega)]; simp [Sha.zeros, List.getD, List.getElem?_eq_none (show l.length ≤ k by omega)]
set_option maxRecDepth 100000 in
set_option maxHeartbeats 1000000 in
theorem rpad_any (v : Value) (l : List UInt8) (c : UInt8) (hl : l.length ≤ 64) (w : World) (hB : Bs w v l) :
    Calls Try.prog 91 #[v, B8 c] w fun e w' => ∃ v', e = .returned v' ∧ NewB w v' (Sha.pad l c) w' := by
  obtain ⟨A, cap, rfl, hcap, hcm, _, _⟩ := hB.is
  have HB := Lib.hid hB
  clear hB
  go_enter Try.func91, Try.ntmps91
  go_wp2
  go_loopw [5, 6, 7] (fun v i q wr => ∃ (k : Nat), k ≤ 64 ∧ i = .int .i64 k ∧ NewB w v (kpad l c k) wr) (fun _ i _ _ => 64 - (intOf i).toNat)
  case atStart => exact ⟨0, by omega, rfl, NewB.nil (Ext.refl w)⟩
  case round =>
    obtain ⟨k, hk, rfl, hnew⟩ := hrel
    have HN := Lib.hid hnew
    by_cases hlt : k < 64
    · have HS := Lib.hid (kpad_next l c hl k hlt)
      have hll : (kpad l c k).length ≤ 64 := by unfold kpad; simp; omega
      by_cases hkl : k < l.length
      · obtain ⟨b, o, cap', hA, _, _, hbl, hcell⟩ := HB.out.pos (by omega)
        injection hA with hA1 hA2 hA3
        subst hA1
        subst hA3
        have hc := (hnew.ext.cell b (o + k) hbl).trans (hcell k hkl)
        generalize l.getD k 0 = x at *
        clear hnew hcell
        go_wp2_with (at_builtin; go_must (refine wpList_append_bs rfl _ _ rfl _ rfl (HN.out.grow ((Ext.refl wr).alloc _)).own _ rfl (Bs.lit_new wr _ [x ^^^ c] (one_cells _) (by simp)) (by simp; omega) ?_; intro v1 w1 ho1 hg1 hf1; have HN1 := Lib.hid ((HN.out.grow ((Ext.refl wr).alloc _)).app ho1 hg1 hf1); clear ho1 hg1 hf1))
        go_roundw
        case rel => exact ⟨k + 1, by omega, by go_num, by rw [HS.out]; exact HN1.out⟩
        case measure => simp [intOf]; omega
      · have hx0 : l.getD k 0 = 0 := by simp [List.getD, List.getElem?_eq_none (show l.length ≤ k by omega)]
        rw [hx0, UInt8.zero_xor] at HS
        have h0 : (0 : Int) = i8 0 := rfl
        clear hnew hx0
        go_wp2_with (at_builtin; go_must (refine wpList_append_bs rfl _ _ rfl _ rfl (HN.out.grow ((Ext.refl wr).alloc _)).own _ rfl (Bs.lit_new wr _ [c] (one_cells _) (by simp)) (by simp; omega) ?_; intro v1 w1 ho1 hg1 hf1; have HN1 := Lib.hid ((HN.out.grow ((Ext.refl wr).alloc _)).app ho1 hg1 hf1); clear ho1 hg1 hf1))
        go_roundw
        case rel => exact ⟨k + 1, by omega, by go_num, by rw [HS.out]; exact HN1.out⟩
        case measure => simp [intOf]; omega
    · obtain rfl : k = 64 := by omega
      have e : kpad l c 64 = Sha.pad l c := List.take_of_length_le (by rw [pad_length _ _ hl]; exact Nat.le_refl _)
      rw [e] at HN
      clear hnew e
      go_wp2
      go_ret
      exact ⟨_, rfl, HN.out⟩

set_option maxRecDepth 100000 in
set_option maxHeartbeats 1000000 in
theorem cpad_any (v : Value) (l : List UInt8) (hl : l.length ≤ 64) (w : World) (hB : Bs w v l) :
    Calls Try.prog 93 #[v, .int .i64 64] w fun e w' => ∃ v', e = .returned v' ∧ NewB w v' (l ++ Sha.zeros (64 - l.length)) w' := by
  obtain ⟨A, cap, rfl, hcap, hcm, _, _⟩ := hB.is
  have HB := Lib.hid hB
  clear hB
  have hm : (64 : Int) - (l.length : Int) = ((64 - l.length : Nat) : Int) := by omega
  have T0 : True := trivial
  go_enter Try.func93, Try.ntmps93
  go_wp2_with (first | (at_builtin; clear T0; go_must (refine wpList_append_bs rfl _ _ rfl (.slice none 0 0) rfl (l := []) (Own.nil _ _ _) _ rfl HB.out (by simp; omega) ?_; intro v1 w1 ho1 hg1 hf1; have HN1 := Lib.hid ((NewB.nil (Ext.refl w)).app ho1 hg1 hf1); rw [List.nil_append] at HN1; have T1 : True := trivial; clear ho1 hg1 hf1)) | (at_builtin; clear T1; go_must (refine wpList_append_zeros rfl _ _ rfl _ rfl HN1.out.own (64 - l.length) (by exact congrArg (Value.int .i64) (show (if 0 < 64 - l.length then ((64 - l.length : Nat) : Int) else 0) = ((64 - l.length : Nat) : Int) by split <;> omega)) (by omega) ?_; intro v2 w2 ho2 hg2 hf2; have HN2 := Lib.hid (HN1.out.app ho2 hg2 hf2); clear ho2 hg2 hf2)))
  all_goals
    go_ret
    exact ⟨_, rfl, HN2.out⟩
/- The padding closure: its key lies in a variable. -/
theorem xor_next (L : List UInt8) (c : UInt8) (j : Nat) (hj : j < L.length) : ((L.take j).map (· ^^^ c) ++ L.drop j).set j ((L.getD j 0) ^^^ c) = (L.take (j + 1)).map (· ^^^ c) ++ L.drop (j + 1) := by
  have e : L.drop j = L.getD j 0 :: L.drop (j + 1) := by
    rw [List.drop_eq_getElem_cons hj]
    simp [hj]
  rw [List.set_append_right _ _ (by simp; omega), e]
  have hl : ((L.take j).map (· ^^^ c)).length = j := by simp; omega
  rw [hl, Nat.sub_self, List.set_cons_zero, List.take_add_one, List.map_append, List.append_assoc]
  congr 1
  simp [hj]
theorem xor_at (L : List UInt8) (c : UInt8) (j : Nat) (hj : j < L.length) : ((L.take j).map (· ^^^ c) ++ L.drop j).getD j 0 = L.getD j 0 := by
  have hl : ((L.take j).map (· ^^^ c)).length = j := by simp; omega
  simp only [List.getD]
  rw [List.getElem?_append_right (by omega), hl, Nat.sub_self, List.getElem?_drop]
  rfl
theorem NewB.form {w w' : World} {v : Value} {l : List UInt8} (h : NewB w v l w') (hl : 0 < l.length) : ∃ G cap, v = .slice (some ⟨G, 0, none⟩) l.length cap ∧ w.heap.size ≤ G ∧ G < w'.heap.size ∧ l.length ≤ cap ∧ cap ≤ maxLen := by
  obtain ⟨h1, h2⟩ := h.own
  rcases h2 with ⟨rfl, h0⟩ | ⟨g, cap, cur, rfl, _, hg, h3, h4, _⟩
  · omega
  · exact ⟨g, cap, rfl, h.fr g rfl, (Array.getElem?_eq_some_iff.1 hg).1, h3, h4⟩
theorem Own.at {w : World} {G n cap : Nat} {L : List UInt8} (h : Own w 5 1 (.slice (some ⟨G, 0, none⟩) n cap) n (L.map B8)) (j : Nat) (hj : j < n) : w.cell? ⟨G, j, none⟩ = some (B8 (L.getD j 0)) := by
  have hl : L.length = n := by have := h.1; simpa using this
  rw [World.ownsRow.cellAt h j (by omega)]
  simp [List.getElem?_eq_getElem (show j < L.length by omega)]
theorem Own.put {w : World} {G n cap : Nat} {L : List UInt8} (h : Own w 5 1 (.slice (some ⟨G, 0, none⟩) n cap) n (L.map B8)) (j : Nat) (x : UInt8) : Own (w.setCell ⟨G, j, none⟩ (B8 x)) 5 1 (.slice (some ⟨G, 0, none⟩) n cap) n ((L.set j x).map B8) := by
  rw [List.map_set]
  exact (World.ownsRow.stored h j (B8 x)).1
theorem Own.toB {w : World} {G n cap : Nat} {L : List UInt8} (h : Own w 5 1 (.slice (some ⟨G, 0, none⟩) n cap) n (L.map B8)) : OwnB w (.slice (some ⟨G, 0, none⟩) n cap) L := by
  have hl : L.length = n := by have := h.1; simpa using this
  subst hl
  exact h
set_option maxRecDepth 100000 in
set_option maxHeartbeats 1000000 in
theorem padc_any (g : Nat) (v : Value) (l : List UInt8) (c : UInt8) (hl : l.length ≤ 64) (w : World) (hg : w.cell? ⟨g, 0, none⟩ = some v) (hB : Bs w v l) :
    Calls Try.prog 92 #[B8 c, .pointer (some ⟨g, 0, none⟩)] w fun e w' => ∃ v', e = .returned v' ∧ NewB w v' (Sha.pad l c) w' := by
  have HB := Lib.hid hB
  clear hB
  have hLl : (l ++ Sha.zeros (64 - l.length)).length = 64 := by simp [Sha.zeros]; omega
  obtain ⟨L, hL⟩ : ∃ L, l ++ Sha.zeros (64 - l.length) = L := ⟨_, rfl⟩
  have HP : Hid (Sha.pad l c = L.map (· ^^^ c)) := Lib.hid (by rw [← hL]; rfl)
  rw [hL] at hLl
  have HL := Lib.hid hL
  have HLl := Lib.hid hLl
  clear hL hLl
  go_enter Try.func92, Try.ntmps92
  go_wp2_with (go_at_call 93; go_must (refine (cpad_any _ l hl _ HB.out).mono ?_; rintro e w1 ⟨v1, rfl, hn⟩; rw [HL.out] at hn; obtain ⟨G, cap, rfl, hG1, hG2, hG3, hG4⟩ := hn.form (by rw [HLl.out]; decide); rw [HLl.out] at hn hG3; have HO1 : Hid (Own w1 5 1 (.slice (some ⟨G, 0, none⟩) 64 cap) 64 (L.map B8)) := Lib.hid (by have := hn.own; unfold OwnB at this; rw [HLl.out] at this; exact this); have HX1 := Lib.hid hn.ext; clear hn; rw [HLl.out]))
  unfold maxLen at hG4
  go_loopw [10, 5] (fun r i wr => ∃ (j : Nat), j ≤ 64 ∧ r = .int .i64 j ∧ Own wr 5 1 (.slice (some ⟨G, 0, none⟩) 64 cap) 64 (((L.take j).map (· ^^^ c) ++ L.drop j).map B8) ∧ Ext w wr) (fun r _ _ => 64 - (intOf r).toNat)
  case atStart => exact ⟨0, by omega, rfl, by simpa using HO1.out, HX1.out⟩
  case round =>
    obtain ⟨j, hj, rfl, ho, hx⟩ := hrel
    by_cases hlt : j < 64
    · have hcell := Own.at ho j hlt
      have hf := World.ownsRow.frozenAt ho j
      have hbl := Own.lt ho (g := G) rfl
      rw [xor_at L c j (by rw [HLl.out]; exact hlt)] at hcell
      have HS := Lib.hid (xor_next L c j (by rw [HLl.out]; exact hlt))
      generalize L.getD j 0 = x at *
      have HO := Lib.hid ho
      have HX := Lib.hid hx
      clear ho hx HO1 HX1
      go_wp2
      go_roundw
      case rel =>
        refine ⟨j + 1, by omega, by go_num, ?_, Ext.setCell_new HX.out trivial hG1⟩
        have h := Own.put HO.out j (x ^^^ c)
        rw [HS.out] at h
        exact h
      case measure => simp [intOf]; omega
    · obtain rfl : j = 64 := by omega
      have e : (L.take 64).map (· ^^^ c) ++ L.drop 64 = Sha.pad l c := by
        rw [List.take_of_length_le (Nat.le_of_eq HLl.out), List.drop_of_length_le (Nat.le_of_eq HLl.out), List.append_nil, HP.out]
      rw [e] at ho
      have HO := Lib.hid ho
      have HX := Lib.hid hx
      clear ho hx e HO1 HX1
      go_wp2
      go_ret
      exact ⟨_, rfl, Own.toB HO.out, HX.out, fun g hg => by injection hg with e; subst e; exact hG1⟩
end Go.Proofs.Ytapojpjmeadabaa

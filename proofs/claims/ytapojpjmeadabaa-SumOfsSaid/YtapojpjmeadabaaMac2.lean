/- codec.Equal, codec.Put, codec.Get. -/
import Derived.Test.YtapojpjmeadabaaMac1
namespace Go.Proofs.Ytapojpjmeadabaa
open Go.RowKit
set_option linter.unusedVariables false
set_option linter.unusedSimpArgs false
attribute [local go_sem] lt_ext cell?_ext frozen?_ext shape?_ext
attribute [local go_sem] u8_xor u8_or i8_mod u8_wrap

set_option maxRecDepth 100000 in
set_option maxHeartbeats 1000000 in
theorem differ_any (g : Nat) (o x y : UInt8) (w : World) (hg : w.cell? ⟨g, 0, none⟩ = some (B8 o)) (hf : w.frozen? ⟨g, 0, none⟩ = false) :
    Calls Try.prog 119 #[B8 x, B8 y, .pointer (some ⟨g, 0, none⟩)] w fun e w' => e = .returned (.tuple #[]) ∧ w.setCell ⟨g, 0, none⟩ (B8 (o ||| (x ^^^ y))) = w' := by
  go_enter Try.func119, Try.ntmps119
  go_wp2
  go_end0
  exact ⟨rfl, rfl⟩
theorem or_zero (o x y : UInt8) : (o ||| (x ^^^ y)) = 0 ↔ o = 0 ∧ x = y := by
  rw [UInt8.or_eq_zero_iff, UInt8.xor_eq_zero_iff]
theorem eq_next (la lb : List UInt8) (h : la.length = lb.length) (j : Nat) (hj : j < la.length) : (la.take (j + 1) = lb.take (j + 1)) ↔ (la.take j = lb.take j ∧ la.getD j 0 = lb.getD j 0) := by
  rw [List.take_add_one, List.take_add_one, List.getElem?_eq_getElem hj, List.getElem?_eq_getElem (show j < lb.length by omega)]
  simp only [Option.toList_some, List.getD, List.getElem?_eq_getElem hj, List.getElem?_eq_getElem (show j < lb.length by omega), Option.getD_some]
  constructor
  · intro e
    have := List.append_inj e (by simp; omega)
    exact ⟨this.1, by simpa using this.2⟩
  · rintro ⟨e1, e2⟩
    rw [e1, e2]
set_option maxRecDepth 100000 in
set_option maxHeartbeats 1000000 in
theorem equal_any (va vb : Value) (la lb : List UInt8) (w : World) (hA : Bs w va la) (hB : Bs w vb lb) :
    Calls Try.prog 94 #[va, vb] w fun e w' => e = .returned (.bool (decide (la = lb))) ∧ Ext w w' := by
  obtain ⟨A, cap, rfl, hcap, hcm, _, _⟩ := hA.is
  obtain ⟨A', cap', rfl, hcap', hcm', _, _⟩ := hB.is
  unfold maxLen at hcm hcm'
  have HA := Lib.hid hA
  have HB := Lib.hid hB
  clear hA hB
  by_cases hl : la.length = lb.length
  · have hl1 : ((la.length : Int) != (lb.length : Int)) = false := by simp [hl]
    have HL := Lib.hid hl
    clear hl
    go_enter Try.func94, Try.ntmps94
    go_wp2
    go_loopw [17, 7, 8] (fun r i c wr => ∃ (j : Nat) (o : UInt8), j ≤ la.length ∧ r = .int .i64 j ∧ wr.heap[w.heap.size]? = some (.cells #[B8 o] 5 (0, 0)) ∧ Ext w wr ∧ Hid (o = 0 ↔ la.take j = lb.take j)) (fun r _ _ _ => la.length - (intOf r).toNat)
    case atStart => exact ⟨0, 0, by omega, rfl, heap_alloc_last w _, (Ext.refl w).alloc _, Lib.hid (by simp)⟩
    case round =>
      obtain ⟨j, o, hj, rfl, hg, hx, ho⟩ := hrel
      clear hl1
      by_cases hlt : j < la.length
      · obtain ⟨b, p, c1, hA, _, _, hbl, hcell⟩ := HA.out.pos (by omega)
        injection hA with hA1 hA2 hA3
        subst hA1
        subst hA3
        obtain ⟨b', p', c1', hA, _, _, hbl', hcell'⟩ := HB.out.pos (by have := HL.out; omega)
        injection hA with hA1 hA2 hA3
        subst hA1
        subst hA3
        have hlt' : j < lb.length := by have := HL.out; omega
        have hc := (hx.cell b (p + j) hbl).trans (hcell j hlt)
        have hc' := (hx.cell b' (p' + j) hbl').trans (hcell' j hlt')
        have HS := Lib.hid (eq_next la lb HL.out j hlt)
        generalize la.getD j 0 = x at *
        generalize lb.getD j 0 = y at *
        have HX := Lib.hid hx
        have HG := Lib.hid hg
        have hn : wr.heap[w.heap.size]? = some (.cells #[B8 o] 5 (0, 0)) := hg
        clear hx hcell hcell' hg
        go_wp2_with (go_at_call 119; go_must (refine (differ_any w.heap.size o x y _ (by rw [cell_of_row _ _ _ _ _ _ HG.out]; rfl) (frozen_of_row _ _ _ _ _ HG.out)).mono ?_; rintro e w1 ⟨rfl, rfl⟩))
        go_roundw
        case rel =>
          refine ⟨j + 1, o ||| (x ^^^ y), by omega, by go_num, ?_, Ext.setCell_new HX.out trivial (Nat.le_refl _), Lib.hid ?_⟩
          · exact heap_setCell_same _ _ 0 _ _ _ HG.out
          · rw [or_zero, HS.out, ho.out]
        case measure => simp [intOf]; omega
      · obtain rfl : j = la.length := by omega
        have e : (o = 0 ↔ la = lb) := by
          have := ho.out
          rw [List.take_length, HL.out, List.take_length] at this
          exact this
        have hc : wr.cell? ⟨w.heap.size, 0, none⟩ = some (B8 o) := by rw [cell_of_row _ _ _ _ _ _ hg]; rfl
        have HX := Lib.hid hx
        clear hx hg
        by_cases h0 : o = 0
        · have e2 : decide (la = lb) = true := by simp [e.1 h0]
          subst h0
          have i0 : i8 0 = 0 := rfl
          clear e
          go_wp2
          go_ret
          exact ⟨by first | (rw [e2]; rfl) | rfl, HX.out⟩
        · have e2 : decide (la = lb) = false := by simp [← e, h0]
          have i0 : (i8 o == 0) = false := by
            simp only [beq_eq_false_iff_ne]
            exact fun h => h0 (i8_inj (y := 0) h)
          clear e h0
          go_wp2
          go_ret
          exact ⟨by first | (rw [e2]; rfl) | rfl, HX.out⟩
  · have hl1 : ((la.length : Int) != (lb.length : Int)) = true := by simp; omega
    have e2 : decide (la = lb) = false := by
      simp only [decide_eq_false_iff_not]
      exact fun e => hl (by rw [e])
    rw [e2]
    clear e2 hl
    go_enter Try.func94, Try.ntmps94
    go_wp2
    go_ret
    exact ⟨rfl, Ext.refl w⟩
end Go.Proofs.Ytapojpjmeadabaa

/- Seal12, Seal13, Seal14: several texts in one. -/
import Derived.Test.YtapojpjmeadabaaZSeal8
import Derived.Test.YtapojpjmeadabaaZNumf
section
/- sacristanref08.Flip. -/
namespace Go.Proofs.Ytapojpjmeadabaa
open Go.RowKit
set_option linter.unusedVariables false
set_option linter.unusedSimpArgs false
attribute [local go_sem] lt_ext cell?_ext frozen?_ext shape?_ext
attribute [local go_sem] u8_xor u8_or i8_mod u8_wrap

/-- The seal that Flip builds up: a box of its own, its slots of its own. -/
structure YW (w0 : World) (yb : Nat) (n b gv : Value) (l : List UInt8) (w : World) : Prop where
  ex : ∃ v, w.heap[yb]? = some (.cells (row68 n b v gv) 68 (0, 0)) ∧ NewB w0 v l w
  ge : w0.heap.size ≤ yb
theorem YW.ext {w0 w : World} {yb : Nat} {n b gv : Value} {l : List UInt8} (h : YW w0 yb n b gv l w) : Ext w0 w := by
  obtain ⟨v, _, hn⟩ := h.ex
  exact hn.ext
theorem OwnB.other68 {w w' : World} {v : Value} {l : List UInt8} {g : Nat} {c : Array Value} (h : OwnB w v l) (hg : Grew w w' v) (hb : w.heap[g]? = some (.cells c 68 (0, 0))) : w'.heap[g]? = some (.cells c 68 (0, 0)) :=
  (hg.block g (Array.getElem?_eq_some_iff.1 hb).1 (fun e => h.not_block hb (by decide) e.symm)).trans hb
theorem flipN_length (sl : List UInt8) (k : Nat) : (flipN sl k).length = sl.length := by simp [flipN]
theorem take_snoc (F : List UInt8) (k : Nat) (x : UInt8) (hk : k < F.length) (hx : F.getD k 0 = x) : F.take (k + 1) = F.take k ++ [x] := by
  rw [List.take_succ_eq_append_getElem hk]
  simp [List.getD, hk] at hx
  rw [hx]
set_option maxRecDepth 100000 in
set_option maxHeartbeats 2000000 in
theorem rflip_out (num : Nat) (blk z : Int) (sl : List UInt8) (su : List (List UInt8)) (sv gv : Value) (w : World) (hS : Bs w sv sl) (hG : Dgs w gv su) (hl : sl.length ≤ 4294967295)
    (hz0 : -9223372036854775808 ≤ z) (hz1 : z ≤ 9223372036854775807) (hz : z < 0 ∨ (0 ≤ z ∧ blk ≤ z)) :
    Calls Try.prog 77 #[.agg #[.int .u64 (num : Int), .int .i64 blk, sv, gv], .int .i64 z] w fun e w' => ∃ v, e = .returned (.agg #[.int .u64 (num : Int), .int .i64 blk, v, gv]) ∧ Bs w' v sl ∧ Ext w w' := by
  obtain ⟨A, cap, rfl, _, _, _, _⟩ := hS.is
  obtain ⟨A2, cap2, rfl, _, _, _, _⟩ := hG.rd.is
  obtain ⟨W1, hW1⟩ : ∃ W1, (w.alloc (.cells #[.int .u64 (num : Int), .int .i64 blk, .slice A sl.length cap, .slice A2 su.length cap2] 68)).alloc (.cells #[.int .u64 0, .int .i64 0, .slice none 0 0, .slice none 0 0] 68) = W1 := ⟨_, rfl⟩
  have hx1 : Ext w W1 := by rw [← hW1]; exact ((Ext.refl w).alloc _).alloc _
  have hs1 : W1.heap.size = w.heap.size + 2 := by rw [← hW1]; simp
  have hb0 : W1.heap[w.heap.size]? = some (.cells #[.int .u64 (num : Int), .int .i64 blk, .slice A sl.length cap, .slice A2 su.length cap2] 68 (0, 0)) := by
    rw [← hW1]
    exact (((Ext.refl (w.alloc (.cells #[.int .u64 (num : Int), .int .i64 blk, .slice A sl.length cap, .slice A2 su.length cap2] 68))).alloc _).block (by simp)).trans (heap_alloc_last w _)
  have hb1 : W1.heap[w.heap.size + 1]? = some (.cells #[.int .u64 0, .int .i64 0, .slice none 0 0, .slice none 0 0] 68 (0, 0)) := by
    rw [← hW1]
    have h := heap_alloc_last (w.alloc (.cells #[.int .u64 (num : Int), .int .i64 blk, .slice A sl.length cap, .slice A2 su.length cap2] 68)) (.cells #[.int .u64 0, .int .i64 0, .slice none 0 0, .slice none 0 0] 68)
    rw [World.size_alloc] at h
    exact h
  have HW1 := Lib.hid hW1
  clear hW1
  go_enter Try.func77, Try.ntmps77
  go_wp2
  rw [HW1.out]
  have hY : YW W1 (w.heap.size + 2) (.int .u64 (num : Int)) (.int .i64 blk) (.slice A2 su.length cap2) [] (W1.alloc (.cells #[.int .u64 (num : Int), .int .i64 blk, .slice none 0 0, .slice A2 su.length cap2] 68)) := by
    refine ⟨⟨_, ?_, NewB.nil ((Ext.refl W1).alloc _)⟩, by omega⟩
    have h := heap_alloc_last W1 (.cells #[.int .u64 (num : Int), .int .i64 blk, .slice none 0 0, .slice A2 su.length cap2] 68)
    rw [hs1] at h
    exact h
  have HY := Lib.hid hY
  have HS : Hid (Bs W1 (.slice A sl.length cap) sl) := Lib.hid (Rd.ext hS hx1)
  have HX1 := Lib.hid hx1
  have HB1 := Lib.hid hb1
  have BX : Hid (∀ w', Ext W1 w' → w'.cell? ⟨w.heap.size, 1, none⟩ = some (.int .i64 blk) ∧ w'.cell? ⟨w.heap.size, 2, none⟩ = some (.slice A sl.length cap)) := Lib.hid (fun w' hx' => by
    have h := (hx'.block (Array.getElem?_eq_some_iff.1 hb0).1).trans hb0
    exact ⟨by rw [cell_of_row _ _ _ _ _ _ h]; rfl, by rw [cell_of_row _ _ _ _ _ _ h]; rfl⟩)
  generalize W1.alloc (.cells #[.int .u64 (num : Int), .int .i64 blk, .slice none 0 0, .slice A2 su.length cap2] 68) = W2 at *
  clear hY hb0 hb1 hx1 hS
  go_loopw [6, 7] (fun i q wr => ∃ k : Nat, k ≤ sl.length ∧ i = .int .i64 k ∧ YW W1 (w.heap.size + 2) (.int .u64 (num : Int)) (.int .i64 blk) (.slice A2 su.length cap2) (sl.take k) wr) (fun i _ _ => sl.length - (intOf i).toNat)
  case atStart => exact ⟨0, by omega, rfl, by simpa using HY.out⟩
  case round =>
    obtain ⟨k, hk1, rfl, hy⟩ := hrel
    have hge := hy.ge
    obtain ⟨v, hvb, hvn⟩ := hy.ex
    obtain ⟨c1, c2⟩ := BX.out _ hvn.ext
    have HN := Lib.hid hvn
    have HVB := Lib.hid hvb
    by_cases hlt : k < sl.length
    · obtain ⟨b, o, capq, hA, _, _, hbl, hcell⟩ := HS.out.pos (by omega)
      injection hA with hA1 hA2 hA3
      subst hA1
      subst hA3
      have hc := (hvn.ext.cell b (o + k) hbl).trans (hcell k (by omega))
      have cv : wr.cell? ⟨w.heap.size + 2, 2, none⟩ = some v := by rw [cell_of_row _ _ _ _ _ _ hvb]; rfl
      obtain ⟨x, hx⟩ : ∃ x, sl.getD k 0 = x := ⟨_, rfl⟩
      have HTK := Lib.hid (take_snoc sl k x (by omega) hx)
      rw [hx] at hc
      have htl : (sl.take k).length ≤ 4294967294 := by simp; omega
      clear hy hvb hvn hcell hx
      rcases hz with hz | ⟨hz, hz'⟩
      · go_wp2_with (at_builtin; go_must (refine wpList_append_bs rfl _ _ rfl _ rfl (HN.out.grow ((Ext.refl wr).alloc _)).own _ rfl (Bs.lit_new wr _ [x] (one_cells _) (by simp)) (by simp; omega) ?_; intro v1 w4 ho1 hg1 hf1; have hb4 := OwnB.other68 (HN.out.grow ((Ext.refl wr).alloc _)).own hg1 ((((Ext.refl wr).alloc (.cells #[B8 x] 5)).block (Array.getElem?_eq_some_iff.1 HVB.out).1).trans HVB.out); have c4 : w4.cell? ⟨w.heap.size + 2, 2, none⟩ = some v := (by rw [cell_of_row _ _ _ _ _ _ hb4]; rfl); have f4 : w4.frozen? ⟨w.heap.size + 2, 2, none⟩ = false := frozen_of_row _ _ _ _ _ hb4; have HN4 := Lib.hid ((HN.out.grow ((Ext.refl wr).alloc _)).app ho1 hg1 hf1); have HB4 := Lib.hid hb4; obtain ⟨A4, c4', e4, _, _, _, _⟩ := HN4.out.bs.is; rw [e4]; rw [e4] at HN4; clear ho1 hg1 hf1 hb4 e4))
        go_roundw
        case rel =>
          have HN5 := HN4.out
          rw [show (sl.take k ++ [x]).length = k + 1 by simp; omega] at HN5
          refine ⟨k + 1, by omega, by go_num, ⟨⟨_, heap_setCell_same _ _ 2 _ _ _ HB4.out, ?_⟩, hge⟩⟩
          rw [HTK.out]
          exact ⟨HN5.own.keep ((Upd.of_ext (Ext.refl w4) (w.heap.size + 2)).setCell (p := ⟨w.heap.size + 2, 2, none⟩) (.inl rfl) _) (HN5.own.not_block HB4.out (by decide)), Ext.setCell_new HN5.ext trivial hge, HN5.fr⟩
        case measure => (simp [intOf] <;> omega)
      · go_wp2_with (at_builtin; go_must (refine wpList_append_bs rfl _ _ rfl _ rfl (HN.out.grow ((Ext.refl wr).alloc _)).own _ rfl (Bs.lit_new wr _ [x] (one_cells _) (by simp)) (by simp; omega) ?_; intro v1 w4 ho1 hg1 hf1; have hb4 := OwnB.other68 (HN.out.grow ((Ext.refl wr).alloc _)).own hg1 ((((Ext.refl wr).alloc (.cells #[B8 x] 5)).block (Array.getElem?_eq_some_iff.1 HVB.out).1).trans HVB.out); have c4 : w4.cell? ⟨w.heap.size + 2, 2, none⟩ = some v := (by rw [cell_of_row _ _ _ _ _ _ hb4]; rfl); have f4 : w4.frozen? ⟨w.heap.size + 2, 2, none⟩ = false := frozen_of_row _ _ _ _ _ hb4; have HN4 := Lib.hid ((HN.out.grow ((Ext.refl wr).alloc _)).app ho1 hg1 hf1); have HB4 := Lib.hid hb4; obtain ⟨A4, c4', e4, _, _, _, _⟩ := HN4.out.bs.is; rw [e4]; rw [e4] at HN4; clear ho1 hg1 hf1 hb4 e4))
        go_roundw
        case rel =>
          have HN5 := HN4.out
          rw [show (sl.take k ++ [x]).length = k + 1 by simp; omega] at HN5
          refine ⟨k + 1, by omega, by go_num, ⟨⟨_, heap_setCell_same _ _ 2 _ _ _ HB4.out, ?_⟩, hge⟩⟩
          rw [HTK.out]
          exact ⟨HN5.own.keep ((Upd.of_ext (Ext.refl w4) (w.heap.size + 2)).setCell (p := ⟨w.heap.size + 2, 2, none⟩) (.inl rfl) _) (HN5.own.not_block HB4.out (by decide)), Ext.setCell_new HN5.ext trivial hge, HN5.fr⟩
        case measure => (simp [intOf] <;> omega)
    · obtain rfl : k = sl.length := by omega
      rw [List.take_length] at HN
      have HHB : Hid (wr.heap[w.heap.size + 1]? = some (.cells #[.int .u64 0, .int .i64 0, .slice none 0 0, .slice none 0 0] 68 (0, 0))) := Lib.hid ((hvn.ext.block (Array.getElem?_eq_some_iff.1 HB1.out).1).trans HB1.out)
      obtain ⟨Av, cv, ev, _, _, _, _⟩ := hvn.bs.is
      rw [List.take_length] at ev
      rw [ev] at HN HVB
      clear hy hvb hvn ev
      go_wp2_with (first | (refine wpl_load68 rfl _ rfl (w.heap.size + 2) rfl _ _ _ _ HVB.out ?_) | (refine wpl_store68 rfl _ _ rfl (w.heap.size + 1) (.int .u64 (num : Int)) (.int .i64 blk) (.slice Av sl.length cv) (.slice A2 su.length cap2) _ _ _ _ rfl rfl (by simp [row68, Value.oneCell']) HHB.out ?_; intro w8 h8 hu8; have H8 := Lib.hid h8; have HU8 := Lib.hid hu8; clear h8 hu8))
      have hkp := HN.out.own.keep HU8.out (fun e => by have := HN.out.fr _ e; omega)
      exact ret68 rfl (w.heap.size + 1) _ _ _ _ rfl H8.out rfl ⟨_, rfl, Own.rd hkp, (HX1.out.trans HN.out.ext).upd_new HU8.out (by omega)⟩
set_option maxRecDepth 100000 in
set_option maxHeartbeats 2000000 in
theorem rflip_in (num : Nat) (blk : Int) (k0 : Nat) (sl : List UInt8) (su : List (List UInt8)) (sv gv : Value) (w : World) (hS : Bs w sv sl) (hG : Dgs w gv su) (hl : sl.length ≤ 4294967295)
    (hz1 : k0 ≤ 9223372036854775807) (hz : (k0 : Int) < blk) :
    Calls Try.prog 77 #[.agg #[.int .u64 (num : Int), .int .i64 blk, sv, gv], .int .i64 (k0 : Int)] w fun e w' => ∃ v, e = .returned (.agg #[.int .u64 (num : Int), .int .i64 blk, v, gv]) ∧ Bs w' v (flipN sl k0) ∧ Ext w w' := by
  obtain ⟨A, cap, rfl, _, _, _, _⟩ := hS.is
  obtain ⟨A2, cap2, rfl, _, _, _, _⟩ := hG.rd.is
  obtain ⟨W1, hW1⟩ : ∃ W1, (w.alloc (.cells #[.int .u64 (num : Int), .int .i64 blk, .slice A sl.length cap, .slice A2 su.length cap2] 68)).alloc (.cells #[.int .u64 0, .int .i64 0, .slice none 0 0, .slice none 0 0] 68) = W1 := ⟨_, rfl⟩
  have hx1 : Ext w W1 := by rw [← hW1]; exact ((Ext.refl w).alloc _).alloc _
  have hs1 : W1.heap.size = w.heap.size + 2 := by rw [← hW1]; simp
  have hb0 : W1.heap[w.heap.size]? = some (.cells #[.int .u64 (num : Int), .int .i64 blk, .slice A sl.length cap, .slice A2 su.length cap2] 68 (0, 0)) := by
    rw [← hW1]
    exact (((Ext.refl (w.alloc (.cells #[.int .u64 (num : Int), .int .i64 blk, .slice A sl.length cap, .slice A2 su.length cap2] 68))).alloc _).block (by simp)).trans (heap_alloc_last w _)
  have hb1 : W1.heap[w.heap.size + 1]? = some (.cells #[.int .u64 0, .int .i64 0, .slice none 0 0, .slice none 0 0] 68 (0, 0)) := by
    rw [← hW1]
    have h := heap_alloc_last (w.alloc (.cells #[.int .u64 (num : Int), .int .i64 blk, .slice A sl.length cap, .slice A2 su.length cap2] 68)) (.cells #[.int .u64 0, .int .i64 0, .slice none 0 0, .slice none 0 0] 68)
    rw [World.size_alloc] at h
    exact h
  have HW1 := Lib.hid hW1
  obtain ⟨F, hF⟩ : ∃ F, flipN sl k0 = F := ⟨_, rfl⟩
  have hFl : F.length = sl.length := by rw [← hF]; exact flipN_length sl k0
  obtain ⟨j, hj⟩ : ∃ j, k0 / 8 = j := ⟨_, rfl⟩
  obtain ⟨r, hr⟩ : ∃ r, k0 % 8 = r := ⟨_, rfl⟩
  have hr8 : r < 8 := by omega
  have hkj : (k0 : Int) / 8 = (j : Int) := by omega
  have hkr : (k0 : Int) % 8 = (r : Int) := by omega
  have HF1 : Hid (j < sl.length → F.getD j 0 = UInt8.ofNat ((sl.getD j 0).toNat ^^^ 2 ^ r)) := Lib.hid (fun h => by rw [← hF]; unfold flipN; rw [hj, hr]; simp [List.getD, h])
  have HF2 : Hid (∀ k, j ≠ k → F.getD k 0 = sl.getD k 0) := Lib.hid (fun k h => by rw [← hF]; unfold flipN; rw [hj, hr]; simp [List.getD, List.getElem?_set, h])
  have HFL := Lib.hid hFl
  rw [hF]
  clear hF hFl hj hr
  clear hW1
  go_enter Try.func77, Try.ntmps77
  go_wp2
  rw [HW1.out]
  have hY : YW W1 (w.heap.size + 2) (.int .u64 (num : Int)) (.int .i64 blk) (.slice A2 su.length cap2) [] (W1.alloc (.cells #[.int .u64 (num : Int), .int .i64 blk, .slice none 0 0, .slice A2 su.length cap2] 68)) := by
    refine ⟨⟨_, ?_, NewB.nil ((Ext.refl W1).alloc _)⟩, by omega⟩
    have h := heap_alloc_last W1 (.cells #[.int .u64 (num : Int), .int .i64 blk, .slice none 0 0, .slice A2 su.length cap2] 68)
    rw [hs1] at h
    exact h
  have HY := Lib.hid hY
  have HS : Hid (Bs W1 (.slice A sl.length cap) sl) := Lib.hid (Rd.ext hS hx1)
  have HX1 := Lib.hid hx1
  have HB1 := Lib.hid hb1
  have BX : Hid (∀ w', Ext W1 w' → w'.cell? ⟨w.heap.size, 1, none⟩ = some (.int .i64 blk) ∧ w'.cell? ⟨w.heap.size, 2, none⟩ = some (.slice A sl.length cap)) := Lib.hid (fun w' hx' => by
    have h := (hx'.block (Array.getElem?_eq_some_iff.1 hb0).1).trans hb0
    exact ⟨by rw [cell_of_row _ _ _ _ _ _ h]; rfl, by rw [cell_of_row _ _ _ _ _ _ h]; rfl⟩)
  generalize W1.alloc (.cells #[.int .u64 (num : Int), .int .i64 blk, .slice none 0 0, .slice A2 su.length cap2] 68) = W2 at *
  clear hY hb0 hb1 hx1 hS
  go_loopw [6, 7] (fun i q wr => ∃ k : Nat, k ≤ sl.length ∧ i = .int .i64 k ∧ YW W1 (w.heap.size + 2) (.int .u64 (num : Int)) (.int .i64 blk) (.slice A2 su.length cap2) (F.take k) wr) (fun i _ _ => sl.length - (intOf i).toNat)
  case atStart => exact ⟨0, by omega, rfl, by simpa using HY.out⟩
  case round =>
    obtain ⟨k, hk1, rfl, hy⟩ := hrel
    have hge := hy.ge
    obtain ⟨v, hvb, hvn⟩ := hy.ex
    obtain ⟨c1, c2⟩ := BX.out _ hvn.ext
    have HN := Lib.hid hvn
    have HVB := Lib.hid hvb
    by_cases hlt : k < sl.length
    · obtain ⟨b, o, capq, hA, _, _, hbl, hcell⟩ := HS.out.pos (by omega)
      injection hA with hA1 hA2 hA3
      subst hA1
      subst hA3
      have hc := (hvn.ext.cell b (o + k) hbl).trans (hcell k (by omega))
      have cv : wr.cell? ⟨w.heap.size + 2, 2, none⟩ = some v := by rw [cell_of_row _ _ _ _ _ _ hvb]; rfl
      obtain ⟨x, hx⟩ : ∃ x, sl.getD k 0 = x := ⟨_, rfl⟩
      rw [hx] at hc
      have hFk : (F.take k).length = k := by have := HFL.out; simp; omega
      have HFK := Lib.hid hFk
      clear hy hvb hvn hcell hFk
      by_cases hjk : j = k
      · subst hjk
        obtain ⟨y, hy2⟩ : ∃ y, UInt8.ofNat (x.toNat ^^^ 2 ^ r) = y := ⟨_, rfl⟩
        have HTK := Lib.hid (take_snoc F j y (by have := HFL.out; omega) (by rw [HF1.out hlt, hx, hy2]))
        have HXB := Lib.hid (xor_bit x r hr8)
        have HY2 := Lib.hid hy2
        clear hx hy2
        go_wp2_with (at_builtin; go_must (rw [HXB.out, HY2.out]; refine wpList_append_bs rfl _ _ rfl _ rfl (HN.out.grow ((Ext.refl wr).alloc _)).own _ rfl (Bs.lit_new wr _ [y] (one_cells _) (by simp)) (by have := HFK.out; simp; omega) ?_; intro v1 w4 ho1 hg1 hf1; have hb4 := OwnB.other68 (HN.out.grow ((Ext.refl wr).alloc _)).own hg1 ((((Ext.refl wr).alloc (.cells #[B8 y] 5)).block (Array.getElem?_eq_some_iff.1 HVB.out).1).trans HVB.out); have c4 : w4.cell? ⟨w.heap.size + 2, 2, none⟩ = some v := (by rw [cell_of_row _ _ _ _ _ _ hb4]; rfl); have f4 : w4.frozen? ⟨w.heap.size + 2, 2, none⟩ = false := frozen_of_row _ _ _ _ _ hb4; have HN4 := Lib.hid ((HN.out.grow ((Ext.refl wr).alloc _)).app ho1 hg1 hf1); have HB4 := Lib.hid hb4; obtain ⟨A4, c4', e4, _, _, _, _⟩ := HN4.out.bs.is; rw [e4]; rw [e4] at HN4; clear ho1 hg1 hf1 hb4 e4))
        go_roundw
        case rel =>
          have HN5 := HN4.out
          rw [show (F.take j ++ [y]).length = min j F.length + 1 by simp] at HN5
          refine ⟨j + 1, by omega, by go_num, ⟨⟨_, heap_setCell_same _ _ 2 _ _ _ HB4.out, ?_⟩, hge⟩⟩
          rw [HTK.out]
          exact ⟨HN5.own.keep ((Upd.of_ext (Ext.refl w4) (w.heap.size + 2)).setCell (p := ⟨w.heap.size + 2, 2, none⟩) (.inl rfl) _) (HN5.own.not_block HB4.out (by decide)), Ext.setCell_new HN5.ext trivial hge, HN5.fr⟩
        case measure => (simp [intOf] <;> omega)
      · have hjki : ¬ (j : Int) = (k : Int) := by omega
        have HTK := Lib.hid (take_snoc F k x (by have := HFL.out; omega) (by rw [HF2.out k hjk]; exact hx))
        clear hx
        go_wp2_with (at_builtin; go_must (skip; refine wpList_append_bs rfl _ _ rfl _ rfl (HN.out.grow ((Ext.refl wr).alloc _)).own _ rfl (Bs.lit_new wr _ [x] (one_cells _) (by simp)) (by have := HFK.out; simp; omega) ?_; intro v1 w4 ho1 hg1 hf1; have hb4 := OwnB.other68 (HN.out.grow ((Ext.refl wr).alloc _)).own hg1 ((((Ext.refl wr).alloc (.cells #[B8 x] 5)).block (Array.getElem?_eq_some_iff.1 HVB.out).1).trans HVB.out); have c4 : w4.cell? ⟨w.heap.size + 2, 2, none⟩ = some v := (by rw [cell_of_row _ _ _ _ _ _ hb4]; rfl); have f4 : w4.frozen? ⟨w.heap.size + 2, 2, none⟩ = false := frozen_of_row _ _ _ _ _ hb4; have HN4 := Lib.hid ((HN.out.grow ((Ext.refl wr).alloc _)).app ho1 hg1 hf1); have HB4 := Lib.hid hb4; obtain ⟨A4, c4', e4, _, _, _, _⟩ := HN4.out.bs.is; rw [e4]; rw [e4] at HN4; clear ho1 hg1 hf1 hb4 e4))
        go_roundw
        case rel =>
          have HN5 := HN4.out
          rw [show (F.take k ++ [x]).length = min k F.length + 1 by simp] at HN5
          refine ⟨k + 1, by omega, by go_num, ⟨⟨_, heap_setCell_same _ _ 2 _ _ _ HB4.out, ?_⟩, hge⟩⟩
          rw [HTK.out]
          exact ⟨HN5.own.keep ((Upd.of_ext (Ext.refl w4) (w.heap.size + 2)).setCell (p := ⟨w.heap.size + 2, 2, none⟩) (.inl rfl) _) (HN5.own.not_block HB4.out (by decide)), Ext.setCell_new HN5.ext trivial hge, HN5.fr⟩
        case measure => (simp [intOf] <;> omega)
    · obtain rfl : k = sl.length := by omega
      have e9 : F.take sl.length = F := List.take_of_length_le (Nat.le_of_eq HFL.out)
      rw [e9] at HN hvn
      have HHB : Hid (wr.heap[w.heap.size + 1]? = some (.cells #[.int .u64 0, .int .i64 0, .slice none 0 0, .slice none 0 0] 68 (0, 0))) := Lib.hid ((hvn.ext.block (Array.getElem?_eq_some_iff.1 HB1.out).1).trans HB1.out)
      obtain ⟨Av, cv, ev, _, _, _, _⟩ := hvn.bs.is
      rw [HFL.out] at ev
      rw [ev] at HN HVB
      clear hy hvb hvn ev
      go_wp2_with (first | (refine wpl_load68 rfl _ rfl (w.heap.size + 2) rfl _ _ _ _ HVB.out ?_) | (refine wpl_store68 rfl _ _ rfl (w.heap.size + 1) (.int .u64 (num : Int)) (.int .i64 blk) (.slice Av sl.length cv) (.slice A2 su.length cap2) _ _ _ _ rfl rfl (by simp [row68, Value.oneCell']) HHB.out ?_; intro w8 h8 hu8; have H8 := Lib.hid h8; have HU8 := Lib.hid hu8; clear h8 hu8))
      have hkp := HN.out.own.keep HU8.out (fun e => by have := HN.out.fr _ e; omega)
      exact ret68 rfl (w.heap.size + 1) _ _ _ _ rfl H8.out rfl ⟨_, rfl, Own.rd hkp, (HX1.out.trans HN.out.ext).upd_new HU8.out (by omega)⟩
end Go.Proofs.Ytapojpjmeadabaa
end

section
/- Encode and Flip, whatever the seal. -/
namespace Go.Proofs.Ytapojpjmeadabaa
open Go.RowKit
set_option linter.unusedVariables false
set_option linter.unusedSimpArgs false
attribute [local go_sem] lt_ext cell?_ext frozen?_ext shape?_ext

theorem right_bounds {blk : Int} {sl : List UInt8} {su : List (List UInt8)} (h : rightB blk sl su = true) : ∃ N : Nat, blk = N ∧ N ≤ 4096 ∧ sl.length = (N + 7) / 8 ∧ su.length = (N + 15) / 16 := by
  unfold rightB rightN at h
  simp only [Bool.and_eq_true, decide_eq_true_eq] at h
  obtain ⟨⟨h1, h2⟩, ⟨h3, h4⟩, _⟩ := h
  exact ⟨blk.toNat, by omega, by omega, h3, h4⟩
theorem encode_any (kv : Value) (x : Se) (key : List UInt8) (w : World) (hK : Bs w kv key) (hk : key.length ≤ 2147483648) (hx : SeR w x) (hr : rightB x.blk x.sl x.su = true) :
    Calls Try.prog 64 #[kv, x.v] w fun e w' => ∃ v, e = .returned (.tuple #[v, .int .i64 0]) ∧ NewB w v (encS key x.num x.blk.toNat x.sl x.su) w' := by
  obtain ⟨N, hN, h1, h2, h3⟩ := right_bounds hr
  obtain ⟨num, blk, sl, su, sv, gv⟩ := x
  simp only at hN h2 h3 hr
  subst hN
  exact encode_in num N sl su kv sv gv key w hK hk hx h1 (by omega) (by omega) hr
theorem rencode_any (kv : Value) (x : Se) (key : List UInt8) (w : World) (hK : Bs w kv key) (hk : key.length ≤ 2147483648) (hx : SeR w x) (hr : rightB x.blk x.sl x.su = true) :
    Calls Try.prog 74 #[kv, x.v] w fun e w' => ∃ v, e = .returned (.tuple #[v, .int .i64 0]) ∧ Bs w' v (encS key x.num x.blk.toNat x.sl x.su) ∧ Ext w w' := by
  obtain ⟨N, hN, h1, h2, h3⟩ := right_bounds hr
  obtain ⟨num, blk, sl, su, sv, gv⟩ := x
  simp only at hN h2 h3 hr
  subst hN
  exact rencode_in num N sl su kv sv gv key w hK hk hx h1 (by omega) (by omega) hr
/-- The slots of a seal that was flipped. -/
def flipL (sl : List UInt8) (blk z : Int) : List UInt8 := if 0 ≤ z ∧ z < blk then flipN sl z.toNat else sl
theorem flipN_out (sl : List UInt8) (k : Nat) (h : sl.length ≤ k / 8) : flipN sl k = sl := by
  unfold flipN
  exact List.set_eq_of_length_le h
theorem flip_any (x : Se) (z : Int) (w : World) (hx : SeR w x) (hl : x.sl.length ≤ 4294967295) (hl2 : x.su.length ≤ 4294967295) (hz0 : -9223372036854775808 ≤ z) (hz1 : z ≤ 9223372036854775807) :
    Calls Try.prog 69 #[x.v, .int .i64 z] w fun e w' => ∃ v7 v10, e = .returned (.agg #[.int .u64 (x.num : Int), .int .i64 x.blk, v7, v10]) ∧ NewB w v7 (flipL x.sl x.blk z) w' ∧ NewD w v10 x.su w' := by
  obtain ⟨num, blk, sl, su, sv, gv⟩ := x
  have hS := hx.sl
  have hG := hx.su
  simp only at hS hG hl hl2
  show Calls Try.prog 69 #[.agg #[.int .u64 (num : Int), .int .i64 blk, sv, gv], .int .i64 z] w fun e w' => ∃ v7 v10, e = .returned (.agg #[.int .u64 (num : Int), .int .i64 blk, v7, v10]) ∧ NewB w v7 (flipL sl blk z) w' ∧ NewD w v10 su w'
  unfold flipL
  by_cases h : 0 ≤ z ∧ z < blk
  · rw [if_pos h]
    obtain ⟨k, rfl⟩ : ∃ k : Nat, z = k := ⟨z.toNat, by omega⟩
    rw [Int.toNat_natCast]
    by_cases hk : k / 8 < sl.length
    · exact flip_in num blk k sl su sv gv w hS hG (by omega) (by omega) h.2 hk
    · rw [flipN_out sl k (by omega)]
      exact flip_out num blk k sl su sv gv w hS hG (by omega) (by omega) hz0 hz1 (.inr (.inr (by omega)))
  · rw [if_neg h]
    exact flip_out num blk z sl su sv gv w hS hG (by omega) (by omega) hz0 hz1 (by omega)
theorem rflip_any (x : Se) (z : Int) (w : World) (hx : SeR w x) (hl : x.sl.length ≤ 4294967295) (hz0 : -9223372036854775808 ≤ z) (hz1 : z ≤ 9223372036854775807) :
    Calls Try.prog 77 #[x.v, .int .i64 z] w fun e w' => ∃ v, e = .returned (.agg #[.int .u64 (x.num : Int), .int .i64 x.blk, v, x.gv]) ∧ Bs w' v (flipL x.sl x.blk z) ∧ Ext w w' := by
  obtain ⟨num, blk, sl, su, sv, gv⟩ := x
  have hS := hx.sl
  have hG := hx.su
  simp only at hS hG hl
  show Calls Try.prog 77 #[.agg #[.int .u64 (num : Int), .int .i64 blk, sv, gv], .int .i64 z] w fun e w' => ∃ v, e = .returned (.agg #[.int .u64 (num : Int), .int .i64 blk, v, gv]) ∧ Bs w' v (flipL sl blk z) ∧ Ext w w'
  unfold flipL
  by_cases h : 0 ≤ z ∧ z < blk
  · rw [if_pos h]
    obtain ⟨k, rfl⟩ : ∃ k : Nat, z = k := ⟨z.toNat, by omega⟩
    rw [Int.toNat_natCast]
    exact rflip_in num blk k sl su sv gv w hS hG hl (by omega) h.2
  · rw [if_neg h]
    exact rflip_out num blk z sl su sv gv w hS hG hl hz0 hz1 (by omega)
end Go.Proofs.Ytapojpjmeadabaa
end

section
/- What a sealed record's bytes say: the plain law of Decode. -/
namespace Go.Proofs.Ytapojpjmeadabaa
open Go.RowKit
set_option linter.unusedVariables false
set_option linter.unusedSimpArgs false
attribute [local go_sem] lt_ext cell?_ext frozen?_ext shape?_ext

/-- Pieces of 32 bytes. -/
def chunk : List UInt8 → Nat → List (List UInt8)
  | _, 0 => []
  | l, n + 1 => l.take 32 :: chunk (l.drop 32) n
theorem chunk_length : ∀ (n : Nat) (l : List UInt8), (chunk l n).length = n
  | 0, _ => rfl
  | n + 1, l => by simp [chunk, chunk_length n]
theorem chunk_all : ∀ (n : Nat) (l : List UInt8), l.length = 32 * n → ∀ d ∈ chunk l n, d.length = 32
  | 0, _, _ => by intro d hd; cases hd
  | n + 1, l, h => by
    intro d hd
    simp only [chunk, List.mem_cons] at hd
    rcases hd with rfl | hd
    · simp; omega
    · exact chunk_all n (l.drop 32) (by simp; omega) d hd
theorem chunk_flatten : ∀ (n : Nat) (l : List UInt8), l.length = 32 * n → (chunk l n).flatten = l
  | 0, l, h => by
    have : l = [] := List.eq_nil_of_length_eq_zero (by omega)
    subst this; rfl
  | n + 1, l, h => by
    simp only [chunk, List.flatten_cons]
    rw [chunk_flatten n (l.drop 32) (by simp; omega), List.take_append_drop]
theorem chunk_of_flatten : ∀ (ds : List (List UInt8)), (∀ d ∈ ds, d.length = 32) → chunk ds.flatten ds.length = ds
  | [], _ => rfl
  | d :: r, h => by
    have h1 := h d (by simp)
    have h2 := chunk_of_flatten r (fun e he => h e (by simp [he]))
    simp only [List.flatten_cons, List.length_cons, chunk]
    rw [List.take_append_of_le_length (by omega), List.take_of_length_le (by omega), List.drop_append_of_le_length (by omega), List.drop_of_length_le (by omega), List.nil_append, h2]
theorem chunk_get : ∀ (n k : Nat) (l : List UInt8), k < n → (chunk l n).getD k [] = (l.take (32 * k + 32)).drop (32 * k)
  | 0, k, _, h => absurd h (Nat.not_lt_zero _)
  | n + 1, 0, l, _ => by simp [chunk]
  | n + 1, k + 1, l, h => by
    have := chunk_get n k (l.drop 32) (by omega)
    simp only [chunk, List.getD_cons_succ, this]
    rw [List.take_drop, List.drop_drop, show 32 + (32 * k + 32) = 32 * (k + 1) + 32 by omega, show 32 + 32 * k = 32 * (k + 1) by omega]

def fN (b : List UInt8) : Nat := spell ((b.take 16).drop 12)
def fnum (b : List UInt8) : Nat := spell ((b.take 12).drop 4)
def fwide (b : List UInt8) : Nat := (fN b + 7) / 8
def fparts (b : List UInt8) : Nat := (fN b + 15) / 16
def fsl (b : List UInt8) : List UInt8 := (b.take (16 + fwide b)).drop 16
def flong (b : List UInt8) : Nat := 48 + fwide b + 32 * fparts b
def ftag (b : List UInt8) : List UInt8 := b.drop (b.length - 32)
def fbody (b : List UInt8) : List UInt8 := b.take (b.length - 32)
def gsu (b : List UInt8) : List (List UInt8) := chunk ((b.take (flong b - 32)).drop (16 + fwide b)) (fparts b)
def good (key b : List UInt8) : Bool := decide (fN b ≤ 4096) && decide (b.length = flong b) && rightB (fN b) (fsl b) (gsu b) && decide (encS key (fnum b) (fN b) (fsl b) (gsu b) = b)

theorem encS_length (key : List UInt8) (num N : Nat) (sl : List UInt8) (su : List (List UInt8)) (hsl : sl.length = (N + 7) / 8) (hsu : su.length = (N + 15) / 16) (h32 : ∀ d ∈ su, d.length = 32) :
    (encS key num N sl su).length = 48 + (N + 7) / 8 + 32 * ((N + 15) / 16) := by
  unfold encS bodyS
  simp only [List.length_append, be_length, Sha.tag_length, flat32 su h32, magicL, hsl, hsu, List.length_cons, List.length_nil]
  omega
/-- What is ahead of the tag, whatever lies behind it, says what was sealed. -/
theorem fields_of (num N : Nat) (hnum : num ≤ 18446744073709551615) (hN : N ≤ 4096) (sl : List UInt8) (su : List (List UInt8)) (hsl : sl.length = (N + 7) / 8) (hsu : su.length = (N + 15) / 16) (h32 : ∀ d ∈ su, d.length = 32) (r : List UInt8) :
    fN (bodyS num N sl su ++ r) = N ∧ fnum (bodyS num N sl su ++ r) = num ∧ fsl (bodyS num N sl su ++ r) = sl ∧ gsu (bodyS num N sl su ++ r) = su := by
  have e1 : fN (bodyS num N sl su ++ r) = N := by
    unfold fN
    have : ((bodyS num N sl su ++ r).take 16).drop 12 = be N 4 := by
      unfold bodyS
      rw [show magicL ++ be num 8 ++ be N 4 ++ sl ++ su.flatten ++ r = (magicL ++ be num 8) ++ (be N 4 ++ (sl ++ su.flatten ++ r)) by simp only [List.append_assoc]]
      have hl : (magicL ++ be num 8).length = 12 := by simp [magicL, be_length]
      rw [List.take_append, hl, List.drop_append, List.take_of_length_le (by omega), List.drop_of_length_le (by omega), List.nil_append, hl, Nat.sub_self, List.drop_zero, List.take_append_of_le_length (by rw [be_length]; omega), List.take_of_length_le (by rw [be_length]; omega)]
    rw [this, spell_be]
    exact Nat.mod_eq_of_lt (by omega)
  have e2 : fnum (bodyS num N sl su ++ r) = num := by
    unfold fnum
    have : ((bodyS num N sl su ++ r).take 12).drop 4 = be num 8 := by
      unfold bodyS
      rw [show magicL ++ be num 8 ++ be N 4 ++ sl ++ su.flatten ++ r = magicL ++ (be num 8 ++ (be N 4 ++ sl ++ su.flatten ++ r)) by simp only [List.append_assoc]]
      have hl : magicL.length = 4 := rfl
      rw [List.take_append, hl, List.drop_append, List.take_of_length_le (by omega), List.drop_of_length_le (by omega), List.nil_append, hl, Nat.sub_self, List.drop_zero, List.take_append_of_le_length (by rw [be_length]; omega), List.take_of_length_le (by rw [be_length]; omega)]
    rw [this, spell_be]
    exact Nat.mod_eq_of_lt (by omega)
  have hpre : (magicL ++ be num 8 ++ be N 4).length = 16 := by simp [magicL, be_length]
  have e3 : fsl (bodyS num N sl su ++ r) = sl := by
    unfold fsl fwide
    rw [e1]
    unfold bodyS
    rw [show magicL ++ be num 8 ++ be N 4 ++ sl ++ su.flatten ++ r = (magicL ++ be num 8 ++ be N 4) ++ (sl ++ (su.flatten ++ r)) by simp only [List.append_assoc]]
    rw [List.take_append, hpre, List.drop_append, List.take_of_length_le (by omega), List.drop_of_length_le (by omega), List.nil_append, hpre, Nat.sub_self, List.drop_zero, List.take_append_of_le_length (by omega), List.take_of_length_le (by omega)]
  refine ⟨e1, e2, e3, ?_⟩
  unfold gsu flong fparts fwide
  rw [e1]
  have hfl := flat32 su h32
  have hpre2 : (magicL ++ be num 8 ++ be N 4 ++ sl).length = 16 + (N + 7) / 8 := by rw [List.length_append, hpre, hsl]
  have : (((bodyS num N sl su ++ r).take (48 + (N + 7) / 8 + 32 * ((N + 15) / 16) - 32)).drop (16 + (N + 7) / 8)) = su.flatten := by
    unfold bodyS
    rw [show magicL ++ be num 8 ++ be N 4 ++ sl ++ su.flatten ++ r = (magicL ++ be num 8 ++ be N 4 ++ sl) ++ (su.flatten ++ r) by simp only [List.append_assoc]]
    rw [List.take_append, hpre2, List.drop_append, List.take_of_length_le (by omega), List.drop_of_length_le (by omega), List.nil_append, hpre2, Nat.sub_self, List.drop_zero, List.take_append_of_le_length (by omega), List.take_of_length_le (by omega)]
  rw [this, ← hsu]
  exact chunk_of_flatten su h32
theorem good_enc (key : List UInt8) (num N : Nat) (hnum : num ≤ 18446744073709551615) (sl : List UInt8) (su : List (List UInt8)) (h32 : ∀ d ∈ su, d.length = 32) (hr : rightB N sl su = true) :
    good key (encS key num N sl su) = true ∧ fN (encS key num N sl su) = N ∧ fnum (encS key num N sl su) = num ∧ fsl (encS key num N sl su) = sl ∧ gsu (encS key num N sl su) = su := by
  obtain ⟨N', hNN, hN, hsl, hsu⟩ := right_bounds hr
  obtain rfl : N = N' := by omega
  obtain ⟨e1, e2, e3, e4⟩ := fields_of num N hnum hN sl su hsl hsu h32 (Sha.tag key (bodyS num N sl su))
  have e0 : bodyS num N sl su ++ Sha.tag key (bodyS num N sl su) = encS key num N sl su := rfl
  rw [e0] at e1 e2 e3 e4
  refine ⟨?_, e1, e2, e3, e4⟩
  unfold good
  rw [e1, e2, e3, e4, hr, encS_length key num N sl su hsl hsu h32]
  simp [flong, fwide, fparts, e1, hN]
theorem good_long {key b : List UInt8} (h : good key b = true) : b.length = flong b := by
  unfold good at h
  simp only [Bool.and_eq_true, decide_eq_true_eq] at h
  exact h.1.1.2
theorem gsu_all (b : List UInt8) (h : b.length = flong b) : ∀ d ∈ gsu b, d.length = 32 := by
  refine chunk_all _ _ ?_
  rw [List.length_drop, List.length_take]
  unfold flong at *
  omega
/-- The given program's way: the tag, the magic, the widths. -/
theorem good_iff (key b : List UInt8) (h48 : 48 ≤ b.length) (hN : fN b ≤ 4096) (hl : b.length = flong b) :
    good key b = (decide (Sha.tag key (fbody b) = ftag b) && decide (b.take 4 = magicL) && rightB (fN b) (fsl b) (gsu b)) := by
  have hl2 := hl
  unfold flong at hl2
  have hbody : magicL = b.take 4 → bodyS (fnum b) (fN b) (fsl b) (gsu b) = fbody b := by
    intro hm
    unfold bodyS
    have h1 : be (fnum b) 8 = (b.take 12).drop 4 := by
      have := be_spell ((b.take 12).drop 4)
      rwa [show ((b.take 12).drop 4).length = 8 by simp; omega] at this
    have h2 : be (fN b) 4 = (b.take 16).drop 12 := by
      have := be_spell ((b.take 16).drop 12)
      rwa [show ((b.take 16).drop 12).length = 4 by simp; omega] at this
    have h3 : (gsu b).flatten = (b.take (flong b - 32)).drop (16 + fwide b) := chunk_flatten _ _ (by rw [List.length_drop, List.length_take]; unfold flong at *; omega)
    rw [h1, h2, h3, hm]
    unfold fsl fbody
    have q1 : b.take 4 ++ (b.take 12).drop 4 = b.take 12 := by
      have := List.take_append_drop 4 (b.take 12)
      rwa [List.take_take, show min 4 12 = 4 from rfl] at this
    have q2 : b.take 12 ++ (b.take 16).drop 12 = b.take 16 := by
      have := List.take_append_drop 12 (b.take 16)
      rwa [List.take_take, show min 12 16 = 12 from rfl] at this
    have q3 : b.take 16 ++ (b.take (16 + fwide b)).drop 16 = b.take (16 + fwide b) := by
      have := List.take_append_drop 16 (b.take (16 + fwide b))
      rwa [List.take_take, Nat.min_eq_left (by omega)] at this
    have q4 : b.take (16 + fwide b) ++ (b.take (flong b - 32)).drop (16 + fwide b) = b.take (flong b - 32) := by
      have := List.take_append_drop (16 + fwide b) (b.take (flong b - 32))
      rwa [List.take_take, Nat.min_eq_left (by unfold flong; omega)] at this
    rw [q1, q2, q3, q4, hl]
  have key0 : decide (encS key (fnum b) (fN b) (fsl b) (gsu b) = b) = (decide (Sha.tag key (fbody b) = ftag b) && decide (b.take 4 = magicL)) := by
    have hsplit : fbody b ++ ftag b = b := List.take_append_drop _ _
    rw [Bool.eq_iff_iff]
    simp only [Bool.and_eq_true, decide_eq_true_eq]
    constructor
    · intro he
      have hm : b.take 4 = magicL := by
        rw [← he]
        unfold encS bodyS
        simp [magicL]
      have hb := hbody hm.symm
      unfold encS at he
      rw [hb] at he
      have h5 : fbody b ++ Sha.tag key (fbody b) = fbody b ++ ftag b := he.trans hsplit.symm
      exact ⟨List.append_cancel_left h5, hm⟩
    · rintro ⟨ht, hm⟩
      unfold encS
      rw [hbody hm.symm, ht, hsplit]
  unfold good
  rw [key0, decide_eq_true hN, decide_eq_true hl]
  simp only [Bool.true_and]
  rw [Bool.and_comm]
end Go.Proofs.Ytapojpjmeadabaa
end

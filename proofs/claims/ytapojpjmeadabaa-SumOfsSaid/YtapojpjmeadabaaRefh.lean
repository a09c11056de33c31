/- The reference's hash: sacristanref02.Sum. -/
import Derived.Test.YtapojpjmeadabaaRefs
namespace Go.Proofs.Ytapojpjmeadabaa
open Go.RowKit
set_option linter.unusedVariables false
set_option linter.unusedSimpArgs false
attribute [local go_sem] lt_ext cell?_ext frozen?_ext shape?_ext u32_wrap u8_wrap i32_mod i8_mod

/-- The first n of 32 bytes, and zeros. -/
def fill (O : List UInt8) (n : Nat) : List UInt8 := O.take n ++ Sha.zeros (32 - n)
theorem fill_length (O : List UInt8) (n : Nat) (hO : O.length = 32) (hn : n ≤ 32) : (fill O n).length = 32 := by simp [fill, Sha.zeros, hO]; omega
theorem fill_set (O : List UInt8) (n : Nat) (hO : O.length = 32) (hn : n < 32) : (fill O n).set n (O.getD n 0) = fill O (n + 1) := by
  apply List.ext_getElem?
  intro i
  unfold fill Sha.zeros
  have h1 : (O.take n).length = n := by rw [List.length_take]; omega
  have h2 : (O.take (n + 1)).length = n + 1 := by rw [List.length_take]; omega
  rw [List.getElem?_set]
  by_cases hi : n = i
  · subst hi
    rw [if_pos rfl, if_pos (by simp; omega), List.getElem?_append_left (by omega), List.getElem?_take, if_pos (by omega)]
    simp [List.getD, show n < O.length by omega]
  · rw [if_neg hi]
    by_cases hlt : i < n
    · rw [List.getElem?_append_left (by omega), List.getElem?_append_left (by omega), List.getElem?_take, List.getElem?_take, if_pos hlt, if_pos (by omega)]
    · rw [List.getElem?_append_right (by omega), List.getElem?_append_right (by omega), h1, h2, List.getElem?_replicate, List.getElem?_replicate]
      by_cases h3 : i - n < 32 - n
      · rw [if_pos h3, if_pos (by omega)]
      · rw [if_neg h3, if_neg (by omega)]
theorem out_at (s : Sha.St) (k j : Nat) (hk : k < 8) (hj : j < 4) : (Sha.out s).getD (4 * k + j) 0 = (be (s.toList.getD k 0).toNat 4).getD j 0 := by
  rw [be_four]
  have h4 : j = 0 ∨ j = 1 ∨ j = 2 ∨ j = 3 := by omega
  rcases below8 k hk with h|h|h|h|h|h|h|h <;> subst h <;> rcases h4 with h|h|h|h <;> subst h <;> rfl
theorem piece_next (P : List UInt8) (k : Nat) : P.take (64 * (k + 1)) = P.take (64 * k) ++ (P.take (64 * k + 64)).drop (64 * k) := by
  have h := List.take_append_drop (64 * k) (P.take (64 * k + 64))
  rw [List.take_take, Nat.min_eq_left (by omega)] at h
  rw [h, show 64 * (k + 1) = 64 * k + 64 by omega]
theorem u64_i32 (x : BitVec 32) : IntKind.u64.wrap (i32 x) = ((x.toNat : Nat) : Int) := by
  have := x.isLt
  rw [IntKind.wrap_u64]; unfold i32; omega
theorem Chg.cell1 {w w' : World} {g : Nat} (h : Chg w w' (· = g)) (i : Nat) (x : Value) : Chg w (w'.setCell ⟨g, i, none⟩ x) (· = g) :=
  Chg.trans h (S := (· = g)) ⟨rfl, by simp, rfl, by simp, fun k hk hn => heap_setCell_other _ _ _ _ (by simpa using hn)⟩ fun _ _ e => e
theorem Chg.cell {w w' : World} {S : Nat → Prop} (h : Chg w w' S) (b i : Nat) (hb : b < w.heap.size) (hS : ¬ S b) : w'.cell? ⟨b, i, none⟩ = w.cell? ⟨b, i, none⟩ := World.cell?_of_block (h.block b hb hS)
theorem fill_zero (O : List UInt8) : fill O 0 = Sha.zeros 32 := by simp [fill]
theorem fill_all (O : List UInt8) (hO : O.length = 32) : fill O 32 = O := by simp [fill, Sha.zeros, List.take_of_length_le (Nat.le_of_eq hO)]
theorem init_cells : #[Value.int .u32 1779033703, .int .u32 3144134277, .int .u32 1013904242, .int .u32 2773480762, .int .u32 1359893119, .int .u32 2600822924, .int .u32 528734635, .int .u32 1541459225] = (Sha.init.toList.map W32).toArray := by kernel_rfl

set_option maxRecDepth 100000 in
set_option maxHeartbeats 2000000 in
theorem refsum_any (v : Value) (l : List UInt8) (hle : l.length ≤ 2147483648) (w : World) (hB : Bs w v l) :
    Calls Try.prog 31 #[v] w fun e w' => e = .returned (Dig (Sha.sum l)) ∧ Ext w w' := by
  obtain ⟨A, cap, rfl, hcap, hcm, _, _⟩ := hB.is
  have HB := Lib.hid hB
  clear hB
  go_enter Try.func31, Try.ntmps31
  go_wp2_with (first | (refine wpl_alloc_agg (w := w) rfl 27 rfl _ zero27.1 ?_; have hw0 : Ext w (w.alloc (.cells (row8 (Sha.zeros 32)) 27)) := (Ext.refl w).alloc _; have hR0 : (w.alloc (.cells (row8 (Sha.zeros 32)) 27)).heap[w.heap.size]? = some (.cells (row8 (Sha.zeros 32)) 27 (0, 0)) := heap_alloc_last w _; have hs0 : w.heap.size < (w.alloc (.cells (row8 (Sha.zeros 32)) 27)).heap.size := (by simp); generalize w.alloc (.cells (row8 (Sha.zeros 32)) 27) = w0 at *; have HW0 := Lib.hid hw0; have HR0 := Lib.hid hR0; have HS0 := Lib.hid hs0; clear hw0 hR0 hs0) | (at_builtin; refine wpList_append_bs (w := w0) rfl _ _ rfl (.slice none 0 0) rfl (l := []) (Own.nil _ _ _) _ rfl (HB.out.ext HW0.out) (by simp; omega) ?_; intro v1 w1 ho1 hg1 hf1; have HN1 := Lib.hid ((NewB.nil (Ext.refl w0)).app ho1 hg1 hf1); clear ho1 hg1 hf1) | (at_builtin; go_must (refine wpList_append_bs rfl _ _ rfl _ rfl (HN1.out.grow ((Ext.refl w1).alloc _)).own _ rfl (Bs.lit_new _ _ [0x80] rfl (by decide)) (by simp; omega) ?_; intro v2 w2 ho1 hg1 hf1; have HN2 := Lib.hid ((HN1.out.grow ((Ext.refl w1).alloc _)).app ho1 hg1 hf1); clear ho1 hg1 hf1)))
  have HN2' : Hid (NewB w0 v2 (l ++ [0x80] ++ Sha.zeros 0) w2) := by have h := HN2.out; simp only [List.nil_append] at h; exact Lib.hid (by simpa [Sha.zeros] using h)
  clear HN1 HN2
  go_loopg [3] (Sha.padZ l.length) (fun kq v wr => ∃ j, j + kq = Sha.padZ l.length ∧ NewB w0 v (l ++ [0x80] ++ Sha.zeros j) wr)
  case atStart => exact ⟨0, by omega, HN2'.out⟩
  case round =>
    obtain ⟨j, hj, hnew⟩ := hrel
    have hlen : (l ++ [0x80] ++ Sha.zeros j).length = l.length + 1 + j := by simp [Sha.zeros]; omega
    obtain ⟨A3, c3, rfl, hc3, hm3, _, _⟩ := hnew.bs.is
    rw [hlen] at hnew hc3 ⊢
    unfold maxLen at hm3
    have HN := Lib.hid hnew
    have hpl : Sha.padZ l.length < 64 := by unfold Sha.padZ; omega
    clear hnew
    by_cases hq : gk = 0
    · have hj2 : j = Sha.padZ l.length := by omega
      have e56 : (((l.length : Int) + 1 + (j : Int)) % 64 != 56) = false := by
        simp only [bne_eq_false_iff_eq]
        unfold Sha.padZ at hj2
        omega
      have HJ2 := Lib.hid hj2
      clear hj2
      have hpm : l ++ [0x80] ++ Sha.zeros j ++ Sha.bytes8 (8 * l.length) = Sha.padded l := by rw [HJ2.out]; rfl
      have HPM := Lib.hid hpm
      clear hpm
      go_wp2_with (first | (go_at_call 79; go_must (rw [show (8 * (l.length : Int)) = ((8 * l.length : Nat) : Int) by omega]; refine (put_any (8 * l.length) (by omega) 8 (by decide) (by decide) _).mono ?_; rintro e w4 ⟨v4, rfl, hP⟩; rw [be_eight] at hP; have HP4 := Lib.hid hP; clear hP)) | (at_builtin; go_must (refine wpList_append_bs rfl _ _ rfl _ rfl (HN.out.grow HP4.out.ext).own _ rfl HP4.out.bs (by simp [Sha.zeros, Sha.bytes8]; omega) ?_; intro v5 w5 ho1 hg1 hf1; have HN5 := Lib.hid ((HN.out.grow HP4.out.ext).app ho1 hg1 hf1); clear ho1 hg1 hf1; rw [HPM.out] at HN5)))
      have hWI : Ws (w5.alloc (.cells #[Value.int .u32 1779033703, .int .u32 3144134277, .int .u32 1013904242, .int .u32 2773480762, .int .u32 1359893119, .int .u32 2600822924, .int .u32 528734635, .int .u32 1541459225] 95)) (.slice (some ⟨w5.heap.size, 0, none⟩) 8 8) Sha.init.toList := Ws.lit_new w5 _ Sha.init.toList init_cells (by decide)
      have hx6 : Ext w5 (w5.alloc (.cells #[Value.int .u32 1779033703, .int .u32 3144134277, .int .u32 1013904242, .int .u32 2773480762, .int .u32 1359893119, .int .u32 2600822924, .int .u32 528734635, .int .u32 1541459225] 95)) := (Ext.refl _).alloc _
      generalize w5.alloc (.cells #[Value.int .u32 1779033703, .int .u32 3144134277, .int .u32 1013904242, .int .u32 2773480762, .int .u32 1359893119, .int .u32 2600822924, .int .u32 528734635, .int .u32 1541459225] 95) = w6 at *
      generalize (Value.slice (some ⟨w5.heap.size, 0, none⟩) 8 8) = v6 at *
      have hPl : (Sha.padded l).length ≤ 2147483800 := by rw [Sha.padded_length]; omega
      have hPm := Sha.padded_mod l
      have hPp : 0 < (Sha.padded l).length := by rw [Sha.padded_length]; omega
      have hsum : Sha.out (Sha.foldN ((Sha.padded l).length / 64) Sha.init (Sha.padded l)) = Sha.sum l := rfl
      obtain ⟨st0, hst0⟩ : ∃ st0, Sha.init = st0 := ⟨_, rfl⟩
      rw [hst0] at hWI hsum
      generalize Sha.padded l = P at *
      obtain ⟨N, hNl⟩ : ∃ N, P.length = 64 * N := ⟨P.length / 64, by omega⟩
      rw [show P.length / 64 = N by omega] at hsum
      obtain ⟨b3, o3, cap3, rfl, hc33, hm33, hb3, hcell3⟩ := (HN5.out.grow hx6).bs.pos (by omega)
      rw [hNl] at hc33 ⊢
      have HN6 := Lib.hid (HN5.out.grow hx6)
      have HWI := Lib.hid hWI
      have HSUM := Lib.hid hsum
      have HC3 := Lib.hid hcell3
      unfold maxLen at hm33
      clear hx6 hWI hst0 hsum hcell3 hPm HJ2 HPM HP4 HN HN5
      clear e56
      go_loopw [4, 5] (fun v i wr => ∃ k : Nat, k ≤ N ∧ i = .int .i64 ((64 * k : Nat) : Int) ∧ Ext w6 wr ∧ Ws wr v (Sha.foldN k st0 (P.take (64 * k))).toList) (fun _ i _ => 64 * N - (intOf i).toNat)
      case atStart => exact ⟨0, by omega, rfl, Ext.refl _, by simpa [Sha.foldN] using HWI.out⟩
      case round =>
        obtain ⟨k, hk, rfl, hE, hW⟩ := hrel
        have HE := Lib.hid hE
        have HW := Lib.hid hW
        have hb3' := Nat.lt_of_lt_of_le hb3 hE.size
        clear hE hW
        by_cases hlt : k < N
        · have hpc : Bs wr (.slice (some ⟨b3, o3 + 64 * k, none⟩) 64 (cap3 - 64 * k)) ((P.take (64 * k + 64)).drop (64 * k)) := Rd.ext (Bs.piece hb3 HC3.out (64 * k) 64 (cap3 - 64 * k) (by omega) (by omega) (by unfold maxLen; omega)) HE.out
          have hpl : ((P.take (64 * k + 64)).drop (64 * k)).length = 64 := by rw [List.length_drop, List.length_take, Nat.min_eq_left (by omega)]; omega
          have htl : (P.take (64 * k)).length = 64 * k := by rw [List.length_take, Nat.min_eq_left (by omega)]
          have hfold : Sha.foldN (k + 1) st0 (P.take (64 * (k + 1))) = Sha.block (Sha.foldN k st0 (P.take (64 * k))) ((P.take (64 * k + 64)).drop (64 * k)) := by
            rw [piece_next, Sha.foldN_snoc _ _ _ _ htl hpl]
          generalize (P.take (64 * k + 64)).drop (64 * k) = pc at *
          generalize Sha.foldN k st0 (P.take (64 * k)) = sk at *
          have HPC := Lib.hid hpc
          have HF := Lib.hid hfold
          clear hpc hfold htl
          go_wp2_with (go_at_call 80; go_must (refine (step_any sk _ _ pc hpl wr HW.out HPC.out).mono ?_; rintro e w7 ⟨v7, rfl, hN7⟩; have HN7 := Lib.hid hN7; clear hN7))
          go_roundw
          case rel => exact ⟨k + 1, by omega, by go_num, HE.out.trans HN7.out.ext, by rw [HF.out]; exact HN7.out.ws⟩
          case measure => simp [intOf]; omega
        · obtain rfl : k = N := by omega
          have e : P.take (64 * k) = P := List.take_of_length_le (by omega)
          have hs : Sha.out (Sha.foldN k st0 (P.take (64 * k))) = Sha.sum l := by rw [e, HSUM.out]
          generalize Sha.foldN k st0 (P.take (64 * k)) = sk at *
          have HS := Lib.hid hs
          have HE1 := Lib.hid (HW0.out.trans (HN6.out.ext.trans HE.out))
          have hR : wr.heap[w.heap.size]? = some (.cells (row8 (Sha.zeros 32)) 27 (0, 0)) := ((HN6.out.ext.trans HE.out).block HS0.out).trans HR0.out
          have hsR : w.heap.size < wr.heap.size := (Array.getElem?_eq_some_iff.1 hR).1
          have HR := Lib.hid hR
          clear hs e hR HE HN6 HR0
          obtain ⟨wz, rfl⟩ : ∃ wz : World, wz = wr := ⟨_, rfl⟩
          go_wp2_with (first | (refine wpl_alloc_agg rfl 27 rfl _ zero27.1 ?_) | (refine wpl_store27 rfl _ _ rfl wz.heap.size (Sha.zeros 32) (Sha.zeros 32) rfl rfl (by simp [Sha.zeros]) (by simp [Sha.zeros]) (heap_alloc_last wz _) ?_; intro w8 h8 hu8; have H8 := Lib.hid h8; have HE8 := Lib.hid (((Ext.refl wz).alloc _).upd_new hu8 (Nat.le_refl _)); clear h8 hu8))
          obtain ⟨b4, o4, cap4, rfl, _, _, hb4, hc4⟩ := Ws.pos (l := sk.toList) HW.out (by simp [Sha.St.toList])
          have hO32 : (Sha.out sk).length = 32 := Sha.out_length sk
          have HC4 := Lib.hid hc4
          clear hc4
          rw [show sk.toList.length = 8 from rfl]
          go_loopw [7] (fun i ws => ∃ k : Nat, k ≤ 8 ∧ i = .int .i64 k ∧ Ext wz ws ∧ ws.heap[wz.heap.size]? = some (.cells (row8 (fill (Sha.out sk) (4 * k))) 27 (0, 0))) (fun i _ => 8 - (intOf i).toNat)
          case atStart => exact ⟨0, by omega, rfl, HE8.out, by rw [H8.out]; rfl⟩
          case round =>
            obtain ⟨k, hk, rfl, hE, hF⟩ := hrel
            have HE := Lib.hid hE
            have HF := Lib.hid hF
            by_cases hlt : k < 8
            · have c4 := (hE.cell b4 (o4 + k) hb4).trans (HC4.out k hlt)
              have hout := out_at sk k
              have hb4' := Nat.lt_of_lt_of_le hb4 hE.size
              generalize sk.toList.getD k 0 = x at *
              have HOUT := Lib.hid hout
              clear hE hF hout
              go_wp2_with (go_at_call 79; go_must (rw [u64_i32]; refine (put_any x.toNat (by have := x.isLt; omega) 4 (by decide) (by decide) _).mono ?_; rintro e w9 ⟨v9, rfl, hP⟩; have HP9 := Lib.hid hP; clear hP))
              obtain ⟨b9, o9, cap9, rfl, _, _, hb9, hc9⟩ := HP9.out.bs.pos (by rw [be_length]; omega)
              have hfr := HP9.out.fr b9 rfl
              have hgr : wz.heap.size < wr.heap.size := (Array.getElem?_eq_some_iff.1 HF.out).1
              have hF9 : w9.heap[wz.heap.size]? = some (.cells (row8 (fill (Sha.out sk) (4 * k))) 27 (0, 0)) := (HP9.out.ext.block hgr).trans HF.out
              have HF9 := Lib.hid hF9
              rw [be_length] at hc9 ⊢
              have HC9 := Lib.hid hc9
              have HE9 := Lib.hid (HE.out.trans HP9.out.ext)
              clear hF9 hc9 HF HE HP9
              go_wp2
              go_loopw [9] (fun i ws => ∃ j : Nat, j ≤ 4 ∧ i = .int .i64 j ∧ Chg w9 ws (· = wz.heap.size) ∧ ws.heap[wz.heap.size]? = some (.cells (row8 (fill (Sha.out sk) (4 * k + j))) 27 (0, 0))) (fun i _ => 4 - (intOf i).toNat)
              case atStart => exact ⟨0, by omega, rfl, Chg.refl _ _, HF9.out⟩
              case round =>
                obtain ⟨j, hj, rfl, hC, hF⟩ := hrel
                have HC := Lib.hid hC
                have HF := Lib.hid hF
                by_cases hlj : j < 4
                · have c9 := (hC.cell b9 (o9 + j) hb9 (by omega)).trans (HC9.out j hlj)
                  have hb9' := Nat.lt_of_lt_of_le hb9 hC.size
                  rw [← HOUT.out j hlt hlj] at c9
                  have hcell : wr.cell? ⟨wz.heap.size, 4 * k + j, none⟩ = some (B8 ((fill (Sha.out sk) (4 * k + j)).getD (4 * k + j) 0)) := by
                    rw [cell_of_row _ _ _ _ _ _ hF]; exact row8_get (by rw [fill_length _ _ hO32 (by omega)]; omega)
                  have hf : wr.frozen? ⟨wz.heap.size, 4 * k + j, none⟩ = false := frozen_of_row _ _ _ _ _ hF
                  clear hC hF
                  go_wp2
                  go_roundw
                  case rel =>
                    refine ⟨j + 1, by omega, by go_num, HC.out.cell1 _ _, ?_⟩
                    have h1 := heap_setCell_same _ _ (4 * k + j) _ _ (B8 ((Sha.out sk).getD (4 * k + j) 0)) HF.out
                    rw [row8_set, fill_set _ _ hO32 (by omega)] at h1
                    exact h1
                  case measure => simp [intOf]; omega
                · obtain rfl : j = 4 := by omega
                  clear hC hF
                  go_wp2
                  go_roundw
                  case rel => exact ⟨k + 1, by omega, by go_num, (Chg.trans (S := fun _ => False) (Chg.of_ext HE9.out _) HC.out (fun i hi e => by omega)).ext fun k hk => hk.elim, by rw [show 4 * (k + 1) = 4 * k + 4 by omega]; exact HF.out⟩
                  case measure => simp [intOf]; omega
            · obtain rfl : k = 8 := by omega
              rw [show 4 * 8 = 32 from rfl, fill_all _ hO32] at hF
              have hRr : wr.heap[w.heap.size]? = some (.cells (row8 (Sha.zeros 32)) 27 (0, 0)) := (hE.block hsR).trans HR.out
              have HF := Lib.hid hF
              have HR := Lib.hid hRr
              have HE := Lib.hid hE
              clear hF hRr hE
              go_wp2_with (first | (refine wpl_load27 rfl _ rfl wz.heap.size rfl (Sha.out sk) hO32 HF.out ?_) | (refine wpl_store27 rfl _ _ rfl w.heap.size (Sha.out sk) (Sha.zeros 32) rfl rfl hO32 (by simp [Sha.zeros]) HR.out ?_; intro w5 h5 hu5; have H5 := Lib.hid h5; have HU5 := Lib.hid hu5; clear h5 hu5))
              refine ret27 rfl w.heap.size (Sha.out sk) hO32 rfl H5.out rfl ⟨?_, (HE1.out.trans HE.out).upd_new HU5.out (Nat.le_refl _)⟩
              rw [← HS.out]
    · have e56 : (((l.length : Int) + 1 + (j : Int)) % 64 != 56) = true := by
        simp only [bne_iff_ne]
        unfold Sha.padZ at hj
        omega
      go_wp2_with (at_builtin; go_must (refine wpList_append_bs rfl _ _ rfl _ rfl (HN.out.grow ((Ext.refl wr).alloc _)).own _ rfl (Bs.lit_new _ _ [0] rfl (by decide)) (by simp [Sha.zeros]; omega) ?_; intro v4 w4 ho1 hg1 hf1; have HN4 := Lib.hid ((HN.out.grow ((Ext.refl wr).alloc _)).app ho1 hg1 hf1); clear ho1 hg1 hf1))
      go_roundg (gk - 1)
      case measure => omega
      case rel =>
        refine ⟨j + 1, by omega, ?_⟩
        have e : l ++ [0x80] ++ Sha.zeros (j + 1) = l ++ [0x80] ++ Sha.zeros j ++ [0] := by
          simp [Sha.zeros, List.replicate_succ', List.append_assoc]
        rw [e]
        exact HN4.out
end Go.Proofs.Ytapojpjmeadabaa

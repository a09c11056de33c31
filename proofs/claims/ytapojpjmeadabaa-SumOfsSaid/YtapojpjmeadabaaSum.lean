/- sha.Sum: of all bytes, in however many pieces. -/
import Derived.Test.YtapojpjmeadabaaHsum
namespace Go.Proofs.Ytapojpjmeadabaa
open Go.RowKit
set_option linter.unusedVariables false
set_option linter.unusedSimpArgs false
attribute [local go_sem] lt_ext cell?_ext frozen?_ext shape?_ext

/-- A slice of slices of bytes. -/
structure Rss (w : World) (v : Value) (vs : List Value) (ls : List (List UInt8)) : Prop where
  rd : Rd w 1 v ls.length vs
  each : ∀ i, i < ls.length → ∃ u, vs[i]? = some u ∧ Bs w u (ls.getD i [])
theorem Rss.ext {w w' : World} {v : Value} {vs : List Value} {ls : List (List UInt8)} (h : Rss w v vs ls) (hx : Ext w w') : Rss w' v vs ls :=
  ⟨h.rd.ext hx, fun i hi => let ⟨u, h1, h2⟩ := h.each i hi; ⟨u, h1, Rd.ext h2 hx⟩⟩
theorem flat_take_le (ls : List (List UInt8)) (k : Nat) : (ls.take k).flatten.length ≤ ls.flatten.length := by
  conv => rhs; rw [← List.take_append_drop k ls, List.flatten_append, List.length_append]
  omega
theorem flat_take_succ (ls : List (List UInt8)) (k : Nat) (hk : k < ls.length) : (ls.take (k + 1)).flatten = (ls.take k).flatten ++ ls.getD k [] := by
  rw [List.take_succ_eq_append_getElem hk, List.flatten_append]
  simp [List.getD, hk]

set_option maxRecDepth 100000 in
set_option maxHeartbeats 1000000 in
theorem sum_any (lv : Value) (vs : List Value) (ls : List (List UInt8)) (w : World) (hL : Rss w lv vs ls) (hle : ls.flatten.length ≤ 2147483648) :
    Calls Try.prog 30 #[lv] w fun e w' => e = .returned (Dig (Sha.sum ls.flatten)) ∧ Ext w w' := by
  obtain ⟨A, cap, rfl, hcap, hcm, _, _⟩ := hL.rd.is
  have hlm : ls.length ≤ maxLen := Nat.le_trans hcap hcm
  unfold maxLen at hlm
  have HL := Lib.hid hL
  clear hL
  go_enter Try.func30, Try.ntmps30
  go_wp2_with (first
    | (refine wpl_alloc_agg rfl 27 rfl _ zero27.1 ?_)
    | (go_at_call 32; go_must (refine (new_any _).mono ?_; rintro e w1 ⟨hb, kb, rfl, hH1, hx1, hg1, hk1⟩; have HO1 := Lib.hid (⟨hH1, hx1, hg1, fun g hg => nomatch hg⟩ : OurH (w.alloc (.cells (row8 (Sha.zeros 32)) 27)) hb kb (.slice none 0 0) [] w1); clear hH1 hx1 hg1)))
  have hR0 : w1.heap[w.heap.size]? = some (.cells (row8 (Sha.zeros 32)) 27 (0, 0)) := (HO1.out.ext.block (by simp)).trans (heap_alloc_last w _)
  have HR0 := Lib.hid hR0
  have hR0l : w.heap.size < w1.heap.size := (Array.getElem?_eq_some_iff.1 hR0).1
  clear hR0
  go_loopw [9] (fun i wr => ∃ (k : Nat) (rv : Value), k ≤ ls.length ∧ i = .int .i64 k ∧ OurH (w.alloc (.cells (row8 (Sha.zeros 32)) 27)) hb kb rv (ls.take k).flatten wr)
    (fun i _ => ls.length - (intOf i).toNat)
  case atStart => exact ⟨0, .slice none 0 0, by omega, rfl, HO1.out⟩
  case round =>
    obtain ⟨k, rv, hk, rfl, hour⟩ := hrel
    have hxw : Ext w wr := ((Ext.refl w).alloc _).trans hour.ext
    have HO := Lib.hid hour
    have HX := Lib.hid hxw
    have hf := flat_take_le ls (k + 1)
    by_cases hlt : k < ls.length
    · have hfs := flat_take_succ ls k hlt
      rw [hfs, List.length_append] at hf
      have HF := Lib.hid hfs
      obtain ⟨b, o, cap', hA, _, _, hbl, hcell⟩ := HL.out.rd.pos (by omega)
      injection hA with hA1 hA2 hA3
      subst hA1
      subst hA3
      obtain ⟨u, hu, hub⟩ := HL.out.each k hlt
      have hc := (hxw.cell b (o + k) hbl).trans (hcell k u hu)
      have HU := Lib.hid (Rd.ext hub hxw)
      clear hour hxw hcell hub HO1 HR0 hu hfs
      go_wp2_with (go_at_call 33; go_must (refine (write_any hb kb rv _ _ (ls.getD k []) _ HO.out.at_ HU.out (by omega)).mono ?_; rintro e w3 ⟨rfl, rv3, hH3, hc3, hf3⟩; have HO3 := Lib.hid (HO.out.wrote hH3 hc3 hf3); clear hH3 hc3 hf3))
      go_roundw
      case rel => exact ⟨k + 1, rv3, by omega, by go_num, by rw [HF.out]; exact HO3.out⟩
      case measure => simp [intOf]; omega
    · have hkl : k = ls.length := by omega
      have e : (ls.take k).flatten = ls.flatten := by rw [hkl, List.take_length]
      rw [e] at HO
      have hR : wr.heap[w.heap.size]? = some (.cells (row8 (Sha.zeros 32)) 27 (0, 0)) := (HO.out.ext.block (by simp)).trans (heap_alloc_last w _)
      have HR := Lib.hid hR
      clear hour hxw e hkl HR0 HO1 hR
      go_wp2_with (first
        | (go_at_call 34; go_must (refine (hsum_any hb kb rv _ _ HO.out.at_ hle).mono ?_; rintro e w3 ⟨rfl, hx3⟩; have HX3 := Lib.hid hx3; clear hx3))
        | (refine wpl_store27 rfl _ _ rfl w.heap.size (Sha.sum ls.flatten) (Sha.zeros 32) rfl rfl (Sha.sum_length _) (by simp [Sha.zeros]) ((HX3.out.block (Array.getElem?_eq_some_iff.1 HR.out).1).trans HR.out) ?_; intro w5 h5 hu5; have H5 := Lib.hid h5; have HU5 := Lib.hid hu5; clear h5 hu5))
      exact ret27 rfl w.heap.size _ (Sha.sum_length _) rfl H5.out rfl ⟨rfl, (HX.out.trans HX3.out).upd_new HU5.out (Nat.le_refl _)⟩
end Go.Proofs.Ytapojpjmeadabaa

/- sacristanlaw02.ShaCopies: a copied hash goes its own way. -/
import Derived.Test.YtapojpjmeadabaaKnown
namespace Go.Proofs.Ytapojpjmeadabaa
open Go.RowKit
set_option linter.unusedVariables false
set_option linter.unusedSimpArgs false
attribute [local go_sem] lt_ext cell?_ext frozen?_ext shape?_ext

/-- Bytes of one's own, for stores: the block and that its cells are there. -/
structure Mut (w : World) (A : Option Addr) (n G : Nat) : Prop where
  at_ : 0 < n → A = some ⟨G, 0, none⟩ ∧ ∃ cur, w.heap[G]? = some (.cells cur 5 (0, 0)) ∧ n ≤ cur.size
theorem Own.mut {w : World} {v : Value} {l : List UInt8} (h : OwnB w v l) (N : Nat) :
    ∃ A cap G, v = .slice A l.length cap ∧ l.length ≤ cap ∧ cap ≤ maxLen ∧ Mut w A l.length G ∧ (v.ownBlock = some G ∨ G = N) := by
  obtain ⟨hl, h2⟩ := h
  rcases h2 with ⟨rfl, hn⟩ | ⟨g, cap, cur, rfl, _, hg, h1, h2, hs, ht⟩
  · exact ⟨none, 0, N, by rw [hn], by omega, Nat.zero_le _, ⟨fun h => by omega⟩, .inr rfl⟩
  · exact ⟨_, cap, g, rfl, h1, h2, ⟨fun _ => ⟨rfl, cur, hg, by omega⟩⟩, .inl rfl⟩
theorem Mut.chg {w w' : World} {A : Option Addr} {n G : Nat} {S : Nat → Prop} (h : Mut w A n G) (hc : Chg w w' S) (hS : ¬ S G) : Mut w' A n G :=
  ⟨fun h0 => by
    obtain ⟨h1, cur, h2, h3⟩ := h.at_ h0
    exact ⟨h1, cur, (hc.block G (Array.getElem?_eq_some_iff.1 h2).1 hS).trans h2, h3⟩⟩
theorem Mut.set {w : World} {A : Option Addr} {n G : Nat} (h : Mut w A n G) (i : Nat) (x : Value) : Mut (w.setCell ⟨G, i, none⟩ x) A n G :=
  ⟨fun h0 => by
    obtain ⟨h1, cur, h2, h3⟩ := h.at_ h0
    exact ⟨h1, _, heap_setCell_same _ _ i _ _ x h2, by simpa using h3⟩⟩
theorem Chg.set1 {w w' : World} {g : Nat} (h : Chg w w' (· = g)) (i : Nat) (x : Value) : Chg w (w'.setCell ⟨g, i, none⟩ x) (· = g) :=
  Chg.trans h (S := (· = g)) ⟨rfl, by simp, rfl, by simp, fun k hk hn => heap_setCell_other _ _ _ _ (by simpa using hn)⟩ fun _ _ e => e

/-- A Write to one Hash leaves another alone. -/
theorem HashAt.other {w w' : World} {hb kb hb2 kb2 : Nat} {rv rv2 : Value} {m m2 : List UInt8} (h1 : HashAt w hb kb rv m) (h2 : HashAt w hb2 kb2 rv2 m2) (hne : hb2 ≠ hb)
    (hr : ∀ g, rv.ownBlock = some g → rv2.ownBlock = some g → False) (hc : Chg w w' (hset hb rv)) : HashAt w' hb2 kb2 rv2 m2 := by
  obtain ⟨p1, r1, _, _, _, hh1, ho1⟩ := h1.ex
  obtain ⟨p2, r2, _, _, _, hh2, ho2⟩ := h2.ex
  refine h2.chg hc ?_ ?_ ?_
  · rintro (e | e)
    · exact hne e
    · exact Own.not_block ho1 hh2 (by decide) e.symm
  · rintro (e | e)
    · have hk := h2.k
      rw [e, hh1] at hk
      injection hk with e2
      injection e2 with e3 e4 e5
      exact absurd e4 (by decide)
    · exact Own.not_block ho1 h2.k (by decide) e.symm
  · intro g hg
    rintro (e | e)
    · subst e
      exact Own.not_block ho2 hh1 (by decide) hg
    · exact hr g e.symm hg
set_option maxRecDepth 100000 in
set_option maxHeartbeats 1000000 in
theorem copies_any (va vb vc : Value) (la lb lc : List UInt8) (ha : la.length ≤ 140737488355328) (hb0 : lb.length ≤ 140737488355328) (hc0 : lc.length ≤ 140737488355328) (w : World) (hA : Bs w va la) (hB : Bs w vb lb) (hC : Bs w vc lc) :
    Calls Try.prog 5 #[va, vb, vc] w fun e w' => e = .returned (.bool true) ∧ Ext w w' := by
  obtain ⟨A, cap, rfl, hcap, hcm, _, _⟩ := hA.is
  obtain ⟨A', cap', rfl, hcap', hcm', _, _⟩ := hB.is
  obtain ⟨A'', cap'', rfl, hcap'', hcm'', _, _⟩ := hC.is
  have HA := Lib.hid hA
  have HB := Lib.hid hB
  have HC := Lib.hid hC
  clear hA hB hC
  by_cases h1 : 1000 < la.length + lb.length + lc.length
  · go_enter Try.func5, Try.ntmps5
    go_wp2_with (go_at_call 29; go_must (refine (known_any _).mono ?_; rintro e w1 ⟨rfl, hx1⟩))
    go_ret
    exact ⟨rfl, hx1⟩
  go_enter Try.func5, Try.ntmps5
  go_wp2_with (first | (go_at_call 32; go_must (refine (new_any _).mono ?_; rintro e w1 ⟨hb, kb, rfl, hH1, hx1, hg1, hk1⟩; have HO1 := Lib.hid (⟨hH1, hx1, hg1, fun g hg => nomatch hg⟩ : OurH w hb kb (.slice none 0 0) [] w1); clear hH1 hx1 hg1)) | (at_builtin; go_must (refine wpList_append_bs rfl _ _ rfl (.slice none 0 0) rfl (l := []) (Own.nil _ _ _) _ rfl (Rd.ext HA.out HO1.out.ext) (by simp; omega) ?_; intro v2 w2 ho2 hg2 hf2; have hx2 := Chg.ext (Chg.of_grew hg2) (fun k hk => nomatch hk); rw [List.nil_append] at ho2; have HO2 := Lib.hid (HO1.out.grow hx2); have HX2 := Lib.hid hx2; have HV2 := Lib.hid ho2; have hv2f : ∀ g, v2.ownBlock = some g → w1.heap.size ≤ g := (hf2.elim (fun e g hg => by rw [e] at hg; cases hg) id); have HF2 := Lib.hid hv2f; clear ho2 hg2 hf2 hx2 hv2f)) | (go_at_call 33; go_must (refine (write_any hb kb _ _ _ la _ HO2.out.at_ HV2.out.rd (by simp; omega)).mono ?_; rintro e w3 ⟨rfl, rv3, hH3, hc3, hf3⟩)))
  obtain ⟨A2, cap2, G, rfl, hcap2, hm2, hmut, hG⟩ := Own.mut HV2.out w3.heap.size
  have k1 := HO1.out.at_.lt
  have k2 := HO1.out.at_.klt
  have s12 : w1.heap.size ≤ w2.heap.size := HX2.out.size
  have s23 : w2.heap.size ≤ w3.heap.size := hc3.size
  have k3 : w1.heap.size ≤ G := by
    rcases hG with e | e
    · exact HF2.out G e
    · omega
  have k4 : ∀ g, rv3.ownBlock = some g → g ≠ G := by
    intro g hg e
    subst e
    rcases hG with e | e
    · have h1 : g < w2.heap.size := Own.lt HV2.out e
      rcases hf3 with e2 | e2
      · rw [e2] at hg; cases hg
      · have := e2 g hg; omega
    · have := hH3.rlt hg; omega
  have HO3 := HO2.out.wrote hH3 hc3 hf3
  rw [List.nil_append] at HO3
  have hmut3 : Mut w3 _ _ G := hmut.chg hc3 (fun e => e.elim (fun e => by omega) (fun e => nomatch e))
  have HM3 := Lib.hid hmut3
  have HO3 := Lib.hid HO3
  have K4 := Lib.hid k4
  have kw : w.heap.size ≤ w1.heap.size := HO1.out.ext.size
  unfold maxLen at hm2
  clear hmut hmut3 hH3 hc3 hf3 hG HV2 HF2 k4
  go_loopw [9] (fun i wr => ∃ k : Nat, k ≤ la.length ∧ i = .int .i64 k ∧ Chg w3 wr (· = G) ∧ Mut wr A2 la.length G) (fun i _ => la.length - (intOf i).toNat)
  case atStart => exact ⟨0, by omega, rfl, Chg.refl _ _, HM3.out⟩
  case round =>
    obtain ⟨k, hk, rfl, hC, hM⟩ := hrel
    by_cases hlt : k < la.length
    · obtain ⟨rfl, cur, hcur, hcs⟩ := hM.at_ (by omega)
      have hcell : wr.cell? ⟨G, k, none⟩ = some (cur[k]'(by omega)) := by rw [cell_of_row _ _ _ _ _ _ hcur]; simp [show k < cur.size by omega]
      have hf : wr.frozen? ⟨G, k, none⟩ = false := frozen_of_row _ _ _ _ _ hcur
      generalize cur[k]'(by omega) = old at hcell
      have HCC := Lib.hid hC
      have HMM := Lib.hid hM
      clear hC hM hcur
      go_wp2
      go_roundw
      case rel => exact ⟨k + 1, by omega, by go_num, HCC.out.set1 _ _, HMM.out.set _ _⟩
      case measure => simp [intOf]; omega
    · obtain rfl : k = la.length := by omega
      have HO4 : OurH w hb kb rv3 la wr := by
        refine ⟨HO3.out.at_.chg hC (by omega) (by omega) K4.out, ?_, HO3.out.ge, HO3.out.fr⟩
        exact (Chg.trans (S := fun _ => False) (Chg.of_ext HO3.out.ext _) hC (fun i hi e => by omega)).ext fun k hk => hk.elim
      have HO4 := Lib.hid HO4
      clear hC hM
      go_wp2_with (first | (go_at_call 35; go_must (refine (copy_any hb kb rv3 la _ HO4.out.at_).mono ?_; rintro e w5 ⟨hb2, rv2, rfl, hH5, hx5, hg5, hf5⟩; have HH5 := Lib.hid hH5; have HX5 := Lib.hid hx5; have HF5 := Lib.hid hf5; have HO5 := Lib.hid (HO4.out.grow hx5); have T1 : True := trivial; clear hH5 hx5 hf5)) | (go_at_call 33; clear T1; go_must (refine (write_any hb kb rv3 _ la lb _ HO5.out.at_ (Rd.ext HB.out HO5.out.ext) (by omega)).mono ?_; rintro e w6 ⟨rfl, rv6, hH6, hc6, hf6⟩; have HO6 := Lib.hid (HO5.out.wrote hH6 hc6 hf6); have hr2 : ∀ g, rv2.ownBlock = some g → w.heap.size ≤ g := (fun g hg => Nat.le_trans HO4.out.ext.size (HF5.out g hg)); have HP6 := Lib.hid (⟨HO5.out.at_.other HH5.out (by have := HO4.out.at_.lt; omega) (fun g h1 h2 => by have := HO4.out.at_.rlt h1; have := HF5.out g h2; omega) hc6, HO6.out.ext, Nat.le_trans HO4.out.ext.size hg5, hr2⟩ : OurH w hb2 kb rv2 la w6); have hapart : ∀ g, rv2.ownBlock = some g → rv6.ownBlock = some g → False := (fun g h1 h2 => by have a1 := HH5.out.rlt h1; have a2 := HF5.out g h1; exact hf6.elim (fun e => by rw [e] at h2; have := HO4.out.at_.rlt h2; omega) (fun e => by have := e g h2; omega)); have HAP := Lib.hid hapart; have T2 : True := trivial; clear hH6 hc6 hf6 hr2 hapart)) | (go_at_call 33; clear T2; go_must (refine (write_any hb2 kb rv2 _ la lc _ HP6.out.at_ (Rd.ext HC.out HP6.out.ext) (by omega)).mono ?_; rintro e w7 ⟨rfl, rv7, hH7, hc7, hf7⟩; have HP7 := Lib.hid (HP6.out.wrote hH7 hc7 hf7); have HO7 := Lib.hid (⟨HP6.out.at_.other HO6.out.at_ (by have := HO4.out.at_.lt; omega) HAP.out hc7, HP7.out.ext, HO6.out.ge, HO6.out.fr⟩ : OurH w hb kb rv6 (la ++ lb) w7); have T3 : True := trivial; clear hH7 hc7 hf7)) | (go_at_call 34; clear T3; go_must (refine (hsum_any hb kb rv6 (la ++ lb) _ HO7.out.at_ (by simp; omega)).mono ?_; rintro e w8 ⟨rfl, hx8⟩; have HX8 := Lib.hid hx8; have T4 : True := trivial; clear hx8)) | (go_at_call 30; clear T4; go_must (refine (sum_any _ _ [la, lb] _ (Rss.two w8 _ _ la lb (Rd.ext HA.out (HO7.out.ext.trans HX8.out)) (Rd.ext HB.out (HO7.out.ext.trans HX8.out))) (by simp; omega)).mono ?_; rintro e w9 ⟨rfl, hx9⟩; rw [show [la, lb].flatten = la ++ lb by simp]; have HX9 := Lib.hid (HX8.out.trans (((Ext.refl w8).alloc _).trans hx9)); have T5 : True := trivial; clear hx9)) | (go_at_call 34; clear T5; go_must (refine (hsum_any hb2 kb rv7 (la ++ lc) _ (HP7.out.grow HX9.out).at_ (by simp; omega)).mono ?_; rintro e w10 ⟨rfl, hx10⟩; have HX10 := Lib.hid (HX9.out.trans hx10); have T6 : True := trivial; clear hx10)) | (go_at_call 30; clear T6; go_must (refine (sum_any _ _ [la, lc] _ (Rss.two w10 _ _ la lc (Rd.ext HA.out (HO7.out.ext.trans HX10.out)) (Rd.ext HC.out (HO7.out.ext.trans HX10.out))) (by simp; omega)).mono ?_; rintro e w11 ⟨rfl, hx11⟩; rw [show [la, lc].flatten = la ++ lc by simp]; have HX11 := Lib.hid (HX10.out.trans (((Ext.refl w10).alloc _).trans hx11)); have T7 : True := trivial; clear hx11)) | (go_at_call 34; clear T7; go_must (refine (hsum_any hb kb rv6 (la ++ lb) _ (HO7.out.grow HX11.out).at_ (by simp; omega)).mono ?_; rintro e w12 ⟨rfl, hx12⟩; have HX12 := Lib.hid (HX11.out.trans hx12); have T8 : True := trivial; clear hx12)) | (go_at_call 34; clear T8; go_must (refine (hsum_any hb kb rv6 (la ++ lb) _ (HO7.out.grow HX12.out).at_ (by simp; omega)).mono ?_; rintro e w13 ⟨rfl, hx13⟩; have HX13 := Lib.hid (HX12.out.trans hx13); have T9 : True := trivial; clear hx13)) | (go_at_call 29; clear T9; go_must (refine (known_any _).mono ?_; rintro e w14 ⟨rfl, hx14⟩; have HX14 := Lib.hid (HX13.out.trans hx14); clear hx14)) | (refine wpl_v (by rfl) _ (exec_eq27 _ _ _ rfl (Sha.sum (la ++ lb)) (Sha.sum (la ++ lb)) rfl rfl (Sha.sum_length _) (Sha.sum_length _) _) ?_) | (refine wpl_v (by rfl) _ (exec_eq27 _ _ _ rfl (Sha.sum (la ++ lc)) (Sha.sum (la ++ lc)) rfl rfl (Sha.sum_length _) (Sha.sum_length _) _) ?_))
      go_ret
      exact ⟨rfl, HO7.out.ext.trans HX14.out⟩
end Go.Proofs.Ytapojpjmeadabaa

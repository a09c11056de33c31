/- Mac3, Tag, Mac4, Known3, Derv, Derl, Begs, Parts: several texts in one. -/
import Derived.Test.YtapojpjmeadabaaZRegw
import Derived.Test.YtapojpjmeadabaaZRegm
import Derived.Lib.SlBytesConst
section
/- codec.Put, codec.Get. -/
namespace Go.Proofs.Ytapojpjmeadabaa
open Go.RowKit
set_option linter.unusedVariables false
set_option linter.unusedSimpArgs false
attribute [local go_sem] lt_ext cell?_ext frozen?_ext shape?_ext
attribute [local go_sem] u8_xor u8_or i8_mod u8_wrap

theorem shr_byte (n j : Nat) : (n : Int) / 2 ^ (8 * j) % 256 = i8 (UInt8.ofNat (n / 256 ^ j)) := by
  have e : (n : Int) / 2 ^ (8 * j) = ((n / 256 ^ j : Nat) : Int) := by
    rw [Int.natCast_ediv, Int.natCast_pow, Nat.mul_comm 8 j, Nat.mul_comm j 8, Int.pow_mul]
    rfl
  rw [e, m8_of_nat]
theorem be_set (n k j m : Nat) (hm : m + j + 1 = k) : (Sha.zeros (k - j) ++ be n j).set m (UInt8.ofNat (n / 256 ^ j)) = Sha.zeros (k - (j + 1)) ++ be n (j + 1) := by
  subst hm
  have e1 : m + j + 1 - j = m + 1 := by omega
  have e2 : m + j + 1 - (j + 1) = m := by omega
  rw [e1, e2, Sha.zeros, List.replicate_succ', List.append_assoc, List.set_append_right _ _ (by simp)]
  simp [Sha.zeros, be]
set_option maxRecDepth 100000 in
set_option maxHeartbeats 1000000 in
theorem cput_any (n : Nat) (hn : n ≤ 18446744073709551615) (k : Nat) (hk0 : 0 < k) (hk8 : k ≤ 8) (w : World) :
    Calls Try.prog 95 #[.int .u64 (n : Int), .int .i64 (k : Int)] w fun e w' => ∃ v, e = .returned v ∧ NewB w v (be n k) w' := by
  have hk1 : ¬ (8 : Int) < (k : Int) := by omega
  go_enter Try.func95, Try.ntmps95
  go_wp2_with (refine wpl_make23 rfl _ _ rfl k rfl rfl (by omega) ?_; intro w1 h1 hx1 hs1; have H1 := Lib.hid h1; have HX1 := Lib.hid hx1; clear h1 hx1 hs1)
  go_loopw [13, 6] (fun r i wr => ∃ (j : Nat), j ≤ k ∧ r = .int .i64 j ∧ Blk wr w.heap.size 5 (Sha.zeros (k - j) ++ be n j) ∧ Ext w wr) (fun r _ _ => k - (intOf r).toNat)
  case atStart => exact ⟨0, by omega, rfl, by simpa [be] using H1.out, HX1.out⟩
  case round =>
    obtain ⟨j, hj, rfl, hB, hx⟩ := hrel
    by_cases hlt : j < k
    · obtain ⟨m, hm, hmk⟩ : ∃ m : Nat, (k : Int) - 1 - (j : Int) = (m : Int) ∧ m < k := ⟨k - 1 - j, by omega, by omega⟩
      have hcell := hB.cell m (by simp [Sha.zeros, be_length]; omega)
      generalize (Sha.zeros (k - j) ++ be n j).getD m 0 = old at hcell
      have hf := hB.frozen m
      have hbl := hB.lt
      have HB := Lib.hid hB
      have HX := Lib.hid hx
      clear hB hx
      go_wp2
      go_roundw
      case rel =>
        refine ⟨j + 1, by omega, by go_num, ?_, Ext.setCell_new HX.out trivial (Nat.le_refl _)⟩
        rw [shr_byte, ← be_set n k j m (by omega)]
        exact HB.out.set m _
      case measure => simp [intOf]; omega
    · obtain rfl : j = k := by omega
      have e : Sha.zeros (j - j) ++ be n j = be n j := by rw [Nat.sub_self]; rfl
      rw [e] at hB
      have HB := Lib.hid hB
      have HX := Lib.hid hx
      clear hB hx e
      go_wp2
      go_ret
      exact ⟨_, rfl, HB.out.own j (by rw [be_length]) (by omega), HX.out, fun g hg => by injection hg with e; subst e; exact Nat.le_refl _⟩
theorem or64_byte (p : Nat) (x : UInt8) (hp : p < 256 ^ 7) : bits .or .u64 (IntKind.u64.wrap ((p : Int) * 256)) (IntKind.u64.wrap (i8 x)) = ((p * 256 + x.toNat : Nat) : Int) := by
  have hx := x.toNat_lt
  have hp' : p < 72057594037927936 := hp
  have e1 : IntKind.u64.wrap ((p : Int) * 256) = ((p * 256 : Nat) : Int) := by rw [IntKind.wrap_u64]; omega
  have e2 : IntKind.u64.wrap (i8 x) = (x.toNat : Int) := by rw [IntKind.wrap_u64]; unfold i8; omega
  rw [e1, e2]
  unfold bits
  simp only [IntKind.bits, BitVec.ofInt_natCast]
  have e3 : (BitVec.ofNat 64 (p * 256) ||| BitVec.ofNat 64 x.toNat).toNat = p * 256 + x.toNat := by
    rw [BitVec.toNat_or, BitVec.toNat_ofNat, BitVec.toNat_ofNat, Nat.mod_eq_of_lt (by omega), Nat.mod_eq_of_lt (by omega), or_add p x.toNat 8 (by omega)]
  show IntKind.u64.wrap ((BitVec.ofNat 64 (p * 256) ||| BitVec.ofNat 64 x.toNat).toNat : Int) = _
  rw [e3, IntKind.wrap_u64]
  omega
set_option maxRecDepth 100000 in
set_option maxHeartbeats 1000000 in
theorem cget_any (v : Value) (l : List UInt8) (hl : l.length ≤ 8) (w : World) (hB : Bs w v l) :
    Calls Try.prog 105 #[v] w fun e w' => e = .returned (.int .u64 (spell l : Nat)) ∧ w = w' := by
  obtain ⟨A, cap, rfl, hcap, hcm, _, _⟩ := hB.is
  have HB := Lib.hid hB
  clear hB
  have h8 : ¬ (0 : Int) < (l.length : Int) - 8 := by omega
  go_enter Try.func105, Try.ntmps105
  go_wp2
  go_loop [13, 3, 5] (fun r x c => ∃ k : Nat, k ≤ l.length ∧ r = .int .i64 k ∧ x = .int .u64 (spell (l.take k) : Nat)) (fun r _ _ => l.length - (intOf r).toNat)
  case atStart => exact ⟨0, by omega, rfl, rfl⟩
  case round =>
    obtain ⟨k, hk, rfl, rfl⟩ := hrel
    clear h8
    by_cases hlt : k < l.length
    · obtain ⟨b, o, cap', hA, _, _, hbl, hcell⟩ := HB.out.pos (by omega)
      injection hA with hA1 hA2 hA3
      subst hA1
      subst hA3
      have hc := hcell k hlt
      clear hcell
      have hs := spell_lt (l.take k)
      rw [List.length_take, Nat.min_eq_left hk] at hs
      have hs : spell (l.take k) < 256 ^ 7 := Nat.lt_of_lt_of_le hs (Nat.pow_le_pow_right (by omega) (by omega))
      have HS := Lib.hid hs
      have HT := Lib.hid (spell_take l k hlt)
      obtain ⟨p, hp⟩ : ∃ p, spell (l.take k) = p := ⟨_, rfl⟩
      rw [hp] at HS HT
      rw [hp]
      clear hs hp
      generalize l.getD k 0 = x at *
      go_wp2
      go_round
      case rel => exact ⟨k + 1, by omega, by go_num, by rw [HT.out, or64_byte _ _ HS.out]⟩
      case measure => simp [intOf]; omega
    · obtain rfl : k = l.length := by omega
      go_wp2
      go_ret
      exact ⟨rfl, rfl⟩
end Go.Proofs.Ytapojpjmeadabaa
end

section
/- mac.Tag: HMAC. -/
namespace Go.Proofs.Ytapojpjmeadabaa
open Go.RowKit
set_option linter.unusedVariables false
set_option linter.unusedSimpArgs false
attribute [local go_sem] lt_ext cell?_ext frozen?_ext shape?_ext

def tagK (kl m : List UInt8) : List UInt8 := Sha.sum (Sha.pad kl 0x5c ++ Sha.sum (Sha.pad kl 0x36 ++ m))
theorem sum_one (u : Value) (l : List UInt8) (w : World) (g : Nat) (hg : g = w.heap.size) (h : Bs w u l) (hle : l.length ≤ 2147483648) :
    Calls Try.prog 30 #[.slice (some ⟨g, 0, none⟩) 1 1] (w.alloc (.cells #[u] 23)) fun e w' => e = .returned (Dig (Sha.sum l)) ∧ Ext w w' := by
  subst hg
  have h1 := sum_any _ [u] [l] _ (Rss.one w u l h) (by simpa using hle)
  rw [show [l].flatten = l by simp] at h1
  exact h1.mono fun e w' ⟨he, hx⟩ => ⟨he, ((Ext.refl w).alloc _).trans hx⟩
/-- What the walk knows behind the key: its variable, the result's. -/
structure K0 (w : World) (kv : Value) (kl : List UInt8) (W0 : World) : Prop where
  ext : Ext w W0
  box : W0.cell? ⟨w.heap.size, 0, none⟩ = some kv
  lt : w.heap.size < W0.heap.size
  bs : Bs W0 kv kl
  res : Blk W0 (w.heap.size + 1) 27 (Sha.zeros 32)
set_option maxRecDepth 100000 in
set_option maxHeartbeats 2000000 in
theorem tag_any (kv lv : Value) (key : List UInt8) (vs : List Value) (ls : List (List UInt8)) (w : World) (hK : Bs w kv key) (hL : Rss w lv vs ls) (hk : key.length ≤ 2147483648) (hf : ls.flatten.length ≤ 1073741824) :
    Calls Try.prog 47 #[kv, lv] w fun e w' => e = .returned (Dig (Sha.tag key ls.flatten)) ∧ Ext w w' := by
  obtain ⟨A, cap, rfl, hcap, hcm, _, _⟩ := hL.rd.is
  obtain ⟨A', cap', rfl, hcap', hcm', _, _⟩ := hK.is
  unfold maxLen at hcm hcm'
  have HL := Lib.hid hL
  have HK := Lib.hid hK
  clear hL hK
  obtain ⟨fl, hfl⟩ : ∃ fl, ls.flatten = fl := ⟨_, rfl⟩
  rw [hfl] at hf ⊢
  have HFL := Lib.hid hfl
  clear hfl
  obtain ⟨kl, hkl⟩ : ∃ kl, Sha.keyOf key = kl := ⟨_, rfl⟩
  have HKL : Hid (kl.length ≤ 64) := Lib.hid (by rw [← hkl]; unfold Sha.keyOf; split <;> first | (rw [Sha.sum_length]; decide) | omega)
  obtain ⟨p36, hp36⟩ : ∃ p, Sha.pad kl 0x36 = p := ⟨_, rfl⟩
  obtain ⟨p5c, hp5c⟩ : ∃ p, Sha.pad kl 0x5c = p := ⟨_, rfl⟩
  have h36 : p36.length ≤ 64 := by rw [← hp36, pad_length _ _ HKL.out]; exact Nat.le_refl _
  have h5c : p5c.length ≤ 64 := by rw [← hp5c, pad_length _ _ HKL.out]; exact Nat.le_refl _
  have HP36 := Lib.hid hp36
  have HP5c := Lib.hid hp5c
  have HT : Hid (∀ m, Sha.sum (Sha.pad kl 0x5c ++ Sha.sum (Sha.pad kl 0x36 ++ m)) = Sha.tag key m) := Lib.hid (fun m => by unfold Sha.tag; rw [hkl])
  have HKL2 := Lib.hid hkl
  clear hp36 hp5c hkl
  by_cases h64 : 64 < key.length
  · have hB0 : (((w.alloc (.cells #[.slice A' key.length cap'] 23)).alloc (.cells (row8 (Sha.zeros 32)) 27)).heap[w.heap.size]? = some (.cells #[.slice A' key.length cap'] 23 (0, 0))) ∧ Blk ((w.alloc (.cells #[.slice A' key.length cap'] 23)).alloc (.cells (row8 (Sha.zeros 32)) 27)) (w.heap.size + 1) 27 (Sha.zeros 32) ∧ Ext w ((w.alloc (.cells #[.slice A' key.length cap'] 23)).alloc (.cells (row8 (Sha.zeros 32)) 27)) := by
      refine ⟨(((Ext.refl (w.alloc (.cells #[.slice A' key.length cap'] 23))).alloc (.cells (row8 (Sha.zeros 32)) 27)).block (k := w.heap.size) (by simp)).trans (heap_alloc_last w _), ?_, ((Ext.refl w).alloc _).alloc _⟩
      have := heap_alloc_last (w.alloc (.cells #[.slice A' key.length cap'] 23)) (.cells (row8 (Sha.zeros 32)) 27)
      rw [World.size_alloc] at this
      exact this
    have HB0 := Lib.hid hB0
    have hkk : Sha.sum key = kl := by have := HKL2.out; unfold Sha.keyOf at this; rw [if_pos h64] at this; exact this
    have HKK := Lib.hid hkk
    have hkl32 : kl.length = 32 := by rw [← hkk]; exact Sha.sum_length _
    have HL32 := Lib.hid hkl32
    clear hB0 hkk hkl32
    go_enter Try.func47, Try.ntmps47
    go_wp2_with (first | (go_at_call 30; go_must (refine (sum_one _ key _ _ (by simp) (Rd.ext HK.out (((Ext.refl w).alloc _).alloc _)) (by omega)).mono ?_; rintro e w1 ⟨rfl, hx1⟩; rw [HKK.out]; have HB1 : Hid (w1.heap[w.heap.size]? = some (.cells #[.slice A' key.length cap'] 23 (0, 0)) ∧ Blk w1 (w.heap.size + 1) 27 (Sha.zeros 32) ∧ Ext w w1) := Lib.hid ⟨(hx1.block (Array.getElem?_eq_some_iff.1 HB0.out.1).1).trans HB0.out.1, Blk.ext HB0.out.2.1 hx1, HB0.out.2.2.trans hx1⟩; clear hx1 HB0)) | (refine wpl_alloc_agg rfl 27 rfl _ zero27.1 ?_) | (refine wpl_store27 rfl _ _ rfl w1.heap.size kl (Sha.zeros 32) rfl rfl HL32.out (by simp [Sha.zeros]) (heap_alloc_last w1 _) ?_; intro w2 h2 hu2; have hx2 : Ext w1 w2 := ((Ext.refl w1).alloc _).upd_new hu2 (Nat.le_refl _); have hbx : w2.heap[w.heap.size]? = some (.cells #[.slice A' key.length cap'] 23 (0, 0)) := (hx2.block (Array.getElem?_eq_some_iff.1 HB1.out.1).1).trans HB1.out.1; have hc2 : w2.cell? ⟨w.heap.size, 0, none⟩ = some (.slice A' key.length cap') := (by rw [cell_of_row _ _ _ _ _ _ hbx]; rfl); have hf2 := frozen_of_row w2 w.heap.size 0 _ _ hbx; have hs2 : w.heap.size < w2.heap.size := (Array.getElem?_eq_some_iff.1 hbx).1; have hs1 : w.heap.size + 1 < w1.heap.size := HB1.out.2.1.lt; have HBX := Lib.hid hbx; have H2 : Hid (Blk w2 w1.heap.size 27 kl) := Lib.hid h2; have HX2 := Lib.hid (HB1.out.2.2.trans hx2); have HR2 := Lib.hid (Blk.ext HB1.out.2.1 hx2); clear h2 hu2 hx2 hbx) | (go_at_call 32; go_must (clear hc2 hf2; have hF : K0 w (.slice (some ⟨w1.heap.size, 0, none⟩) 32 32) kl (w2.setCell ⟨w.heap.size, 0, none⟩ (.slice (some ⟨w1.heap.size, 0, none⟩) 32 32)) := (by have e1 := heap_setCell_same _ _ 0 _ _ (.slice (some ⟨w1.heap.size, 0, none⟩) 32 32) HBX.out; exact ⟨Ext.setCell_new HX2.out trivial (Nat.le_refl _), (by rw [cell_of_row _ _ _ _ _ _ e1]; rfl), (Array.getElem?_eq_some_iff.1 e1).1, Blk.whole ((Below.heap_setCell w2 ⟨w.heap.size, 0, none⟩ _ w1.heap.size (by simp; omega)).trans H2.out) 32 32 HL32.out.symm (Nat.le_refl _) (by decide), (Below.heap_setCell w2 ⟨w.heap.size, 0, none⟩ _ (w.heap.size + 1) (by simp)).trans HR2.out⟩); generalize w2.setCell ⟨w.heap.size, 0, none⟩ (.slice (some ⟨w1.heap.size, 0, none⟩) 32 32) = W0 at hF ⊢; have HF := Lib.hid hF; clear hF hs2 hs1; refine (new_any _).mono ?_; rintro e w3 ⟨hb, kb, rfl, hH3, hx3, hg3, hk3⟩; have HO3 := Lib.hid (⟨hH3, hx3, hg3, fun g hg => nomatch hg⟩ : OurH W0 hb kb (.slice none 0 0) [] w3); clear hH3 hx3 hg3 hk3)) | (go_at_call 92; go_must (refine (padc_any w.heap.size _ kl 0x36 HKL.out _ ((HO3.out.ext.cell _ 0 HF.out.lt).trans HF.out.box) (Rd.ext HF.out.bs HO3.out.ext)).mono ?_; rintro e w4 ⟨v4, rfl, hn4⟩; rw [HP36.out] at hn4; have HN4 := Lib.hid hn4.bs; have HO4 := Lib.hid (HO3.out.grow hn4.ext); clear hn4)) | (go_at_call 33; go_must (refine (write_any hb kb _ _ [] p36 _ HO4.out.at_ HN4.out (by simp; omega)).mono ?_; rintro e w5 ⟨rfl, rv5, hH5, hc5, hf5⟩; rw [List.nil_append] at hH5; have HO5 := Lib.hid (HO4.out.wrote hH5 hc5 hf5); clear hH5 hc5 hf5)))
    go_loopw [26, 9] (fun i u wr => ∃ (k : Nat) (rv : Value), k ≤ ls.length ∧ i = .int .i64 k ∧ OurH W0 hb kb rv (p36 ++ (ls.take k).flatten) wr) (fun i _ _ => ls.length - (intOf i).toNat)
    case atStart => exact ⟨0, rv5, by omega, rfl, by simpa using HO5.out⟩
    case round =>
      obtain ⟨k, rv, hk1, rfl, hour⟩ := hrel
      have hxw : Ext w wr := HF.out.ext.trans hour.ext
      have HO := Lib.hid hour
      have HX := Lib.hid hxw
      have hf1 := flat_take_le ls (k + 1)
      rw [HFL.out] at hf1
      by_cases hlt : k < ls.length
      · have hfs := flat_take_succ ls k hlt
        rw [hfs, List.length_append] at hf1
        have HFS := Lib.hid hfs
        obtain ⟨b, o, cap', hA, _, _, hbl, hcell⟩ := HL.out.rd.pos (by omega)
        injection hA with hA1 hA2 hA3
        subst hA1
        subst hA3
        obtain ⟨u, hu, hub⟩ := HL.out.each k hlt
        have hc := (hxw.cell b (o + k) hbl).trans (hcell k u hu)
        have HU := Lib.hid (Rd.ext hub hxw)
        clear hour hxw hcell hub hu hfs HO5
        go_wp2_with (go_at_call 33; go_must (refine (write_any hb kb rv _ _ (ls.getD k []) _ HO.out.at_ HU.out (by rw [List.length_append]; omega)).mono ?_; rintro e w6 ⟨rfl, rv6, hH6, hc6, hf6⟩; have HO6 := Lib.hid (HO.out.wrote hH6 hc6 hf6); clear hH6 hc6 hf6))
        go_roundw
        case rel => exact ⟨k + 1, rv6, by omega, by go_num, by rw [HFS.out, ← List.append_assoc]; exact HO6.out⟩
        case measure => simp [intOf]; omega
      · have hkl : k = ls.length := by omega
        have e : (ls.take k).flatten = fl := by rw [hkl, List.take_length, HFL.out]
        rw [e] at HO
        clear hour hxw e hkl HO5 hf1
        have hDl : (Sha.sum (p36 ++ fl)).length = 32 := Sha.sum_length _
        have hm36 : (p36 ++ fl).length ≤ 1073741888 := by simp; omega
        have HTG : Hid (Sha.sum (p5c ++ Sha.sum (p36 ++ fl)) = Sha.tag key fl) := Lib.hid (by rw [← HP36.out, ← HP5c.out]; exact HT.out fl)
        generalize p36 ++ fl = m36 at *
        obtain ⟨D, hD⟩ : ∃ D, Sha.sum m36 = D := ⟨_, rfl⟩
        rw [hD] at hDl HTG
        have HD := Lib.hid hD
        have HDl := Lib.hid hDl
        have hDl2 : D.length ≤ 32 := Nat.le_of_eq hDl
        clear hD hDl
        go_wp2_with (first | (go_at_call 34; go_must (refine (hsum_any hb kb rv _ _ HO.out.at_ (by omega)).mono ?_; rintro e w6 ⟨rfl, hx6⟩; rw [HD.out]; have HO6 := Lib.hid (HO.out.grow hx6); clear hx6)) | (refine wpl_alloc_agg rfl 27 rfl _ zero27.1 ?_) | (refine wpl_store27 rfl _ _ rfl w6.heap.size D (Sha.zeros 32) rfl rfl HDl.out (by simp [Sha.zeros]) (heap_alloc_last w6 _) ?_; intro w7 h7 hu7; have H7 := Lib.hid h7; have HO7 := Lib.hid (HO6.out.grow (((Ext.refl w6).alloc _).upd_new hu7 (Nat.le_refl _))); have hs7 : w6.heap.size < w7.heap.size := (Array.getElem?_eq_some_iff.1 h7).1; clear h7 hu7))
        refine wp_region_mt 5 (by kernel_rfl) (by kernel_rfl) ?_
        try simp only [Act.put, List.setIfInBounds_toArray, List.set_cons_succ, List.set_cons_zero]
        simp only [List.take_succ_cons, List.take_zero]
        repeat (refine gq rfl rfl rfl rfl (fun K hK => ?_); go_big_quiet_op; refine hK _ ?_; clear hK K)
        refine gcp rfl rfl rfl rfl 92 #[.int .u8 92, .pointer (some ⟨w.heap.size, 0, none⟩)] (fun _ => by go_simp) 37 rfl (BsR p5c) BsR.ext (fun x => (padc_any w.heap.size _ kl 0x5c HKL.out _ (((HO7.out.ext.trans (ext_ext w7 x)).cell _ 0 HF.out.lt).trans HF.out.box) (Rd.ext HF.out.bs (HO7.out.ext.trans (ext_ext w7 x)))).mono (fun e w' ⟨v, he, hn⟩ => ⟨v, he, (by rw [HP5c.out] at hn; exact hn.bs), hn.ext⟩)) ?_
        simp only [Act.put, List.setIfInBounds_toArray, List.set_cons_succ, List.set_cons_zero]
        repeat (refine gq rfl rfl rfl rfl (fun K hK => ?_); go_big_quiet_op; refine hK _ ?_; clear hK K)
        refine gvx rfl rfl 39 rfl (RssR [p5c, D]) RssR.ext (fun xs => rfl) (fun xs x hk => by have h37 : Bs (w7.ext x) (xs 37) p5c := hk 37 (by decide) (by simp) _ rfl; obtain ⟨A3, c3, e3, _⟩ := h37.is; exact ⟨.slice (some ⟨(w7.ext x).heap.size, 0, none⟩) 2 2, (w7.ext x).alloc (.cells #[xs 37, .slice (some ⟨w6.heap.size, 0, none⟩) 32 32] 23), by simp only [fillM, Act.put, List.setIfInBounds_toArray, List.set_cons_succ, List.set_cons_zero]; rw [e3]; go_simp, ⟨_, Rss.two _ (xs 37) _ p5c D h37 (Blk.whole (Blk.ext H7.out (ext_ext w7 x)) 32 32 HDl.out.symm (Nat.le_refl _) (by decide))⟩, (Ext.refl _).alloc _⟩) ?_
        simp only [Act.put, List.setIfInBounds_toArray, List.set_cons_succ, List.set_cons_zero]
        refine gcx rfl rfl 30 (fun xs => #[xs 39]) (Dig (Sha.tag key fl)) (fun xs => rfl) (fun xs w => by simp only [fillM, Act.put, List.setIfInBounds_toArray, List.set_cons_succ, List.set_cons_zero]; go_simp) (fun xs x hk => by obtain ⟨vs, hu⟩ := hk 39 (by decide) (by simp) _ rfl; have h := sum_any _ vs [p5c, D] _ hu (by simp; omega); rw [show ([p5c, D]).flatten = p5c ++ D by simp, HTG.out] at h; exact h) ?_
        simp only [Act.put, List.setIfInBounds_toArray, List.set_cons_succ, List.set_cons_zero]
        refine gm_end_at rfl [(39, RssR [p5c, D]), (37, BsR p5c)] rfl (fun xs x hk => ?_)
        clear hk
        simp only [fillM, Act.put, List.setIfInBounds_toArray, List.set_cons_succ, List.set_cons_zero]
        simp only [List.drop_succ_cons, List.drop_zero]
        refine wpl_store27 rfl _ _ rfl (w.heap.size + 1) (Sha.tag key fl) (Sha.zeros 32) rfl rfl (Sha.tag_length _ _) (by simp [Sha.zeros]) (Blk.ext HF.out.res (HO7.out.ext.trans (ext_ext w7 x))) ?_
        intro w8 h8 hu8
        have H8 := Lib.hid h8
        have HX8 := Lib.hid ((HF.out.ext.trans (HO7.out.ext.trans (ext_ext w7 x))).upd_new hu8 (Nat.le_succ _))
        clear h8 hu8
        go_wp2
        exact ret27 rfl (w.heap.size + 1) _ (Sha.tag_length _ _) rfl H8.out rfl ⟨rfl, HX8.out⟩
  · have hkk : key = kl := by have := HKL2.out; unfold Sha.keyOf at this; rw [if_neg h64] at this; exact this
    have hF0 : K0 w (.slice A' key.length cap') kl ((w.alloc (.cells #[.slice A' key.length cap'] 23)).alloc (.cells (row8 (Sha.zeros 32)) 27)) := by
      have hb := (((Ext.refl (w.alloc (.cells #[.slice A' key.length cap'] 23))).alloc (.cells (row8 (Sha.zeros 32)) 27)).block (k := w.heap.size) (by simp)).trans (heap_alloc_last w _)
      refine ⟨((Ext.refl w).alloc _).alloc _, by rw [cell_of_row _ _ _ _ _ _ hb]; rfl, by simp; omega, ?_, ?_⟩
      · rw [← hkk]; exact Rd.ext HK.out (((Ext.refl w).alloc _).alloc _)
      · have := heap_alloc_last (w.alloc (.cells #[.slice A' key.length cap'] 23)) (.cells (row8 (Sha.zeros 32)) 27)
        simpa [Blk] using this
    have HF0 := Lib.hid hF0
    clear hkk hF0
    go_enter Try.func47, Try.ntmps47
    go_wp2_with (first | (refine wpl_alloc_agg rfl 27 rfl _ zero27.1 ?_) | (go_at_call 32; go_must (have hF := HF0.out; clear HF0; generalize (w.alloc (.cells #[.slice A' key.length cap'] 23)).alloc (.cells (row8 (Sha.zeros 32)) 27) = W0 at hF ⊢; have HF := Lib.hid hF; clear hF; refine (new_any _).mono ?_; rintro e w3 ⟨hb, kb, rfl, hH3, hx3, hg3, hk3⟩; have HO3 := Lib.hid (⟨hH3, hx3, hg3, fun g hg => nomatch hg⟩ : OurH W0 hb kb (.slice none 0 0) [] w3); clear hH3 hx3 hg3 hk3)) | (go_at_call 92; go_must (refine (padc_any w.heap.size _ kl 0x36 HKL.out _ ((HO3.out.ext.cell _ 0 HF.out.lt).trans HF.out.box) (Rd.ext HF.out.bs HO3.out.ext)).mono ?_; rintro e w4 ⟨v4, rfl, hn4⟩; rw [HP36.out] at hn4; have HN4 := Lib.hid hn4.bs; have HO4 := Lib.hid (HO3.out.grow hn4.ext); clear hn4)) | (go_at_call 33; go_must (refine (write_any hb kb _ _ [] p36 _ HO4.out.at_ HN4.out (by simp; omega)).mono ?_; rintro e w5 ⟨rfl, rv5, hH5, hc5, hf5⟩; rw [List.nil_append] at hH5; have HO5 := Lib.hid (HO4.out.wrote hH5 hc5 hf5); clear hH5 hc5 hf5)))
    go_loopw [26, 9] (fun i u wr => ∃ (k : Nat) (rv : Value), k ≤ ls.length ∧ i = .int .i64 k ∧ OurH W0 hb kb rv (p36 ++ (ls.take k).flatten) wr) (fun i _ _ => ls.length - (intOf i).toNat)
    case atStart => exact ⟨0, rv5, by omega, rfl, by simpa using HO5.out⟩
    case round =>
      obtain ⟨k, rv, hk1, rfl, hour⟩ := hrel
      have hxw : Ext w wr := HF.out.ext.trans hour.ext
      have HO := Lib.hid hour
      have HX := Lib.hid hxw
      have hf1 := flat_take_le ls (k + 1)
      rw [HFL.out] at hf1
      by_cases hlt : k < ls.length
      · have hfs := flat_take_succ ls k hlt
        rw [hfs, List.length_append] at hf1
        have HFS := Lib.hid hfs
        obtain ⟨b, o, cap', hA, _, _, hbl, hcell⟩ := HL.out.rd.pos (by omega)
        injection hA with hA1 hA2 hA3
        subst hA1
        subst hA3
        obtain ⟨u, hu, hub⟩ := HL.out.each k hlt
        have hc := (hxw.cell b (o + k) hbl).trans (hcell k u hu)
        have HU := Lib.hid (Rd.ext hub hxw)
        clear hour hxw hcell hub hu hfs HO5
        go_wp2_with (go_at_call 33; go_must (refine (write_any hb kb rv _ _ (ls.getD k []) _ HO.out.at_ HU.out (by rw [List.length_append]; omega)).mono ?_; rintro e w6 ⟨rfl, rv6, hH6, hc6, hf6⟩; have HO6 := Lib.hid (HO.out.wrote hH6 hc6 hf6); clear hH6 hc6 hf6))
        go_roundw
        case rel => exact ⟨k + 1, rv6, by omega, by go_num, by rw [HFS.out, ← List.append_assoc]; exact HO6.out⟩
        case measure => simp [intOf]; omega
      · have hkl : k = ls.length := by omega
        have e : (ls.take k).flatten = fl := by rw [hkl, List.take_length, HFL.out]
        rw [e] at HO
        clear hour hxw e hkl HO5 hf1
        have hDl : (Sha.sum (p36 ++ fl)).length = 32 := Sha.sum_length _
        have hm36 : (p36 ++ fl).length ≤ 1073741888 := by simp; omega
        have HTG : Hid (Sha.sum (p5c ++ Sha.sum (p36 ++ fl)) = Sha.tag key fl) := Lib.hid (by rw [← HP36.out, ← HP5c.out]; exact HT.out fl)
        generalize p36 ++ fl = m36 at *
        obtain ⟨D, hD⟩ : ∃ D, Sha.sum m36 = D := ⟨_, rfl⟩
        rw [hD] at hDl HTG
        have HD := Lib.hid hD
        have HDl := Lib.hid hDl
        have hDl2 : D.length ≤ 32 := Nat.le_of_eq hDl
        clear hD hDl
        go_wp2_with (first | (go_at_call 34; go_must (refine (hsum_any hb kb rv _ _ HO.out.at_ (by omega)).mono ?_; rintro e w6 ⟨rfl, hx6⟩; rw [HD.out]; have HO6 := Lib.hid (HO.out.grow hx6); clear hx6)) | (refine wpl_alloc_agg rfl 27 rfl _ zero27.1 ?_) | (refine wpl_store27 rfl _ _ rfl w6.heap.size D (Sha.zeros 32) rfl rfl HDl.out (by simp [Sha.zeros]) (heap_alloc_last w6 _) ?_; intro w7 h7 hu7; have H7 := Lib.hid h7; have HO7 := Lib.hid (HO6.out.grow (((Ext.refl w6).alloc _).upd_new hu7 (Nat.le_refl _))); have hs7 : w6.heap.size < w7.heap.size := (Array.getElem?_eq_some_iff.1 h7).1; clear h7 hu7))
        refine wp_region_mt 5 (by kernel_rfl) (by kernel_rfl) ?_
        try simp only [Act.put, List.setIfInBounds_toArray, List.set_cons_succ, List.set_cons_zero]
        simp only [List.take_succ_cons, List.take_zero]
        repeat (refine gq rfl rfl rfl rfl (fun K hK => ?_); go_big_quiet_op; refine hK _ ?_; clear hK K)
        refine gcp rfl rfl rfl rfl 92 #[.int .u8 92, .pointer (some ⟨w.heap.size, 0, none⟩)] (fun _ => by go_simp) 37 rfl (BsR p5c) BsR.ext (fun x => (padc_any w.heap.size _ kl 0x5c HKL.out _ (((HO7.out.ext.trans (ext_ext w7 x)).cell _ 0 HF.out.lt).trans HF.out.box) (Rd.ext HF.out.bs (HO7.out.ext.trans (ext_ext w7 x)))).mono (fun e w' ⟨v, he, hn⟩ => ⟨v, he, (by rw [HP5c.out] at hn; exact hn.bs), hn.ext⟩)) ?_
        simp only [Act.put, List.setIfInBounds_toArray, List.set_cons_succ, List.set_cons_zero]
        repeat (refine gq rfl rfl rfl rfl (fun K hK => ?_); go_big_quiet_op; refine hK _ ?_; clear hK K)
        refine gvx rfl rfl 39 rfl (RssR [p5c, D]) RssR.ext (fun xs => rfl) (fun xs x hk => by have h37 : Bs (w7.ext x) (xs 37) p5c := hk 37 (by decide) (by simp) _ rfl; obtain ⟨A3, c3, e3, _⟩ := h37.is; exact ⟨.slice (some ⟨(w7.ext x).heap.size, 0, none⟩) 2 2, (w7.ext x).alloc (.cells #[xs 37, .slice (some ⟨w6.heap.size, 0, none⟩) 32 32] 23), by simp only [fillM, Act.put, List.setIfInBounds_toArray, List.set_cons_succ, List.set_cons_zero]; rw [e3]; go_simp, ⟨_, Rss.two _ (xs 37) _ p5c D h37 (Blk.whole (Blk.ext H7.out (ext_ext w7 x)) 32 32 HDl.out.symm (Nat.le_refl _) (by decide))⟩, (Ext.refl _).alloc _⟩) ?_
        simp only [Act.put, List.setIfInBounds_toArray, List.set_cons_succ, List.set_cons_zero]
        refine gcx rfl rfl 30 (fun xs => #[xs 39]) (Dig (Sha.tag key fl)) (fun xs => rfl) (fun xs w => by simp only [fillM, Act.put, List.setIfInBounds_toArray, List.set_cons_succ, List.set_cons_zero]; go_simp) (fun xs x hk => by obtain ⟨vs, hu⟩ := hk 39 (by decide) (by simp) _ rfl; have h := sum_any _ vs [p5c, D] _ hu (by simp; omega); rw [show ([p5c, D]).flatten = p5c ++ D by simp, HTG.out] at h; exact h) ?_
        simp only [Act.put, List.setIfInBounds_toArray, List.set_cons_succ, List.set_cons_zero]
        refine gm_end_at rfl [(39, RssR [p5c, D]), (37, BsR p5c)] rfl (fun xs x hk => ?_)
        clear hk
        simp only [fillM, Act.put, List.setIfInBounds_toArray, List.set_cons_succ, List.set_cons_zero]
        simp only [List.drop_succ_cons, List.drop_zero]
        refine wpl_store27 rfl _ _ rfl (w.heap.size + 1) (Sha.tag key fl) (Sha.zeros 32) rfl rfl (Sha.tag_length _ _) (by simp [Sha.zeros]) (Blk.ext HF.out.res (HO7.out.ext.trans (ext_ext w7 x))) ?_
        intro w8 h8 hu8
        have H8 := Lib.hid h8
        have HX8 := Lib.hid ((HF.out.ext.trans (HO7.out.ext.trans (ext_ext w7 x))).upd_new hu8 (Nat.le_succ _))
        clear h8 hu8
        go_wp2
        exact ret27 rfl (w.heap.size + 1) _ (Sha.tag_length _ _) rfl H8.out rfl ⟨rfl, HX8.out⟩
end Go.Proofs.Ytapojpjmeadabaa
end

section
/- mac.Check; sacristanref03.Tag. -/
namespace Go.Proofs.Ytapojpjmeadabaa
open Go.RowKit
set_option linter.unusedVariables false
set_option linter.unusedSimpArgs false
attribute [local go_sem] lt_ext cell?_ext frozen?_ext shape?_ext

theorem tag_fl (m : List UInt8) (kv lv : Value) (key : List UInt8) (vs : List Value) (ls : List (List UInt8)) (w : World) (hK : Bs w kv key) (hL : Rss w lv vs ls) (hk : key.length ≤ 2147483648) (hm : Hid (ls.flatten = m)) (hf : m.length ≤ 1073741824) :
    Calls Try.prog 47 #[kv, lv] w fun e w' => e = .returned (Dig (Sha.tag key m)) ∧ Ext w w' := by
  have h := hm.out
  subst h
  exact tag_any kv lv key vs ls w hK hL hk hf
set_option maxRecDepth 100000 in
set_option maxHeartbeats 1000000 in
theorem check_any (m : List UInt8) (kv tv lv : Value) (key tag : List UInt8) (vs : List Value) (ls : List (List UInt8)) (w : World) (hK : Bs w kv key) (hT : Bs w tv tag) (hL : Rss w lv vs ls) (hk : key.length ≤ 2147483648) (hm : Hid (ls.flatten = m)) (hf : m.length ≤ 1073741824) :
    Calls Try.prog 48 #[kv, tv, lv] w fun e w' => e = .returned (.bool (decide (Sha.tag key m = tag))) ∧ Ext w w' := by
  have HK := Lib.hid hK
  have HT := Lib.hid hT
  have HL := Lib.hid hL
  have HD : Hid ((Sha.tag key m).length = 32) := Lib.hid (Sha.tag_length _ _)
  have HF := Lib.hid hf
  clear hK hT hL hf
  generalize hD : Sha.tag key m = D at *
  have HDD := Lib.hid hD
  clear hD
  go_enter Try.func48, Try.ntmps48
  go_wp2_with (first | (go_at_call 47; go_must (refine (tag_fl m _ _ key vs ls _ HK.out HL.out hk hm HF.out).mono ?_; rintro e w1 ⟨rfl, hx1⟩; rw [HDD.out]; have HX1 := Lib.hid hx1; clear hx1)) | (refine wpl_alloc_agg rfl 27 rfl _ zero27.1 ?_) | (refine wpl_store27 rfl _ _ rfl w1.heap.size D (Sha.zeros 32) rfl rfl HD.out (by simp [Sha.zeros]) (heap_alloc_last w1 _) ?_; intro w2 h2 hu2; have H2 : Hid (Blk w2 w1.heap.size 27 D) := Lib.hid h2; have hs2 : w1.heap.size < w2.heap.size := H2.out.lt; have HX2 := Lib.hid (HX1.out.trans (((Ext.refl w1).alloc _).upd_new hu2 (Nat.le_refl _))); clear h2 hu2) | (go_at_call 94; go_must (refine (equal_any _ _ D tag _ (Blk.whole H2.out 32 32 HD.out.symm (Nat.le_refl _) (by decide)) (Rd.ext HT.out HX2.out)).mono ?_; rintro e w3 ⟨rfl, hx3⟩; have HX3 := Lib.hid (HX2.out.trans hx3); clear hx3)))
  go_ret
  exact ⟨rfl, HX3.out⟩
set_option maxRecDepth 100000 in
set_option maxHeartbeats 1000000 in
theorem rtag_any (kv mv : Value) (key m : List UInt8) (w : World) (hK : Bs w kv key) (hM : Bs w mv m) (hk : key.length ≤ 2147483648) (hf : m.length ≤ 1073741824) :
    Calls Try.prog 46 #[kv, mv] w fun e w' => e = .returned (Dig (Sha.tag key m)) ∧ Ext w w' := by
  obtain ⟨A', cap', rfl, hcap', hcm', _, _⟩ := hK.is
  unfold maxLen at hcm'
  have HK := Lib.hid hK
  have HM := Lib.hid hM
  clear hK hM
  obtain ⟨kl, hkl⟩ : ∃ kl, Sha.keyOf key = kl := ⟨_, rfl⟩
  have HKL : Hid (kl.length ≤ 64) := Lib.hid (by rw [← hkl]; unfold Sha.keyOf; split <;> first | (rw [Sha.sum_length]; decide) | omega)
  obtain ⟨p36, hp36⟩ : ∃ p, Sha.pad kl 0x36 = p := ⟨_, rfl⟩
  obtain ⟨p5c, hp5c⟩ : ∃ p, Sha.pad kl 0x5c = p := ⟨_, rfl⟩
  have h36 : p36.length ≤ 64 := by rw [← hp36, pad_length _ _ HKL.out]; exact Nat.le_refl _
  have h5c : p5c.length ≤ 64 := by rw [← hp5c, pad_length _ _ HKL.out]; exact Nat.le_refl _
  have HP36 := Lib.hid hp36
  have HP5c := Lib.hid hp5c
  obtain ⟨D, hD⟩ : ∃ D, Sha.sum (p36 ++ m) = D := ⟨_, rfl⟩
  have HDl : Hid (D.length = 32) := Lib.hid (by rw [← hD]; exact Sha.sum_length _)
  have hDl : D.length ≤ 32 := Nat.le_of_eq HDl.out
  obtain ⟨T, hT⟩ : ∃ T, Sha.tag key m = T := ⟨_, rfl⟩
  have HTT : Hid (Sha.sum (p5c ++ D) = T) := Lib.hid (by rw [← hT, ← hD, ← hp5c, ← hp36]; unfold Sha.tag; rw [hkl])
  have HTl : Hid (T.length = 32) := Lib.hid (by rw [← hT]; exact Sha.tag_length _ _)
  rw [hT]
  have HD := Lib.hid hD
  have HKL2 := Lib.hid hkl
  clear hp36 hp5c hkl hD hT
  by_cases h64 : 64 < key.length
  · have hkk : Sha.sum key = kl := by have := HKL2.out; unfold Sha.keyOf at this; rw [if_pos h64] at this; exact this
    have HKK := Lib.hid hkk
    have hkl32 : kl.length = 32 := by rw [← hkk]; exact Sha.sum_length _
    have HL32 := Lib.hid hkl32
    clear hkk hkl32
    have hR00 : Blk (w.alloc (.cells (row8 (Sha.zeros 32)) 27)) w.heap.size 27 (Sha.zeros 32) := heap_alloc_last w _
    have hw00 : Ext w (w.alloc (.cells (row8 (Sha.zeros 32)) 27)) := (Ext.refl w).alloc _
    have HR00 := Lib.hid hR00
    have HW00 := Lib.hid hw00
    have TA : True := trivial
    clear hR00 hw00
    go_enter Try.func46, Try.ntmps46
    go_wp2_with (first | (refine wpl_alloc_agg rfl 27 rfl _ zero27.1 ?_) | (go_at_call 31; clear TA; go_must (refine (refsum_any _ key (by omega) _ (Rd.ext HK.out HW00.out)).mono ?_; rintro e wa ⟨rfl, hxa⟩; rw [HKK.out]; have HWa := Lib.hid (HW00.out.trans hxa); have HRa := Lib.hid (Blk.ext HR00.out hxa); have TB : True := trivial; clear hxa)) | (go_at_call 50; clear TB; go_must (refine (slice_any kl HL32.out _).mono ?_; rintro e w0 ⟨vb, rfl, hnb⟩; have HW0 := Lib.hid (HWa.out.trans hnb.ext); have HR0 := Lib.hid (Blk.ext HRa.out hnb.ext); have HB0 := Lib.hid hnb.bs; have T0 : True := trivial; clear hnb)) | (go_at_call 91; clear T0; go_must (refine (rpad_any _ kl 0x36 HKL.out _ HB0.out).mono ?_; rintro e w1 ⟨v1, rfl, hn1⟩; rw [HP36.out] at hn1; have HN1 := Lib.hid hn1; have T1 : True := trivial; clear hn1)) | (at_builtin; clear T1; go_must (refine wpList_append_bs rfl _ _ rfl _ rfl HN1.out.own _ rfl (Rd.ext HM.out (HW0.out.trans HN1.out.ext)) (by omega) ?_; intro v2 w2 ho2 hg2 hf2; have HN2 := Lib.hid (HN1.out.app ho2 hg2 hf2); have T2 : True := trivial; clear ho2 hg2 hf2)) | (go_at_call 91; clear T2; go_must (refine (rpad_any _ kl 0x5c HKL.out _ (Rd.ext HB0.out HN2.out.ext)).mono ?_; rintro e w3 ⟨v3, rfl, hn3⟩; rw [HP5c.out] at hn3; have HN3 := Lib.hid hn3; have T3 : True := trivial; clear hn3)) | (go_at_call 31; clear T3; go_must (refine (refsum_any _ (p36 ++ m) (by rw [List.length_append]; omega) _ (Rd.ext HN2.out.bs HN3.out.ext)).mono ?_; rintro e w4 ⟨rfl, hx4⟩; rw [HD.out]; have HN4 := Lib.hid (HN3.out.grow hx4); have T4 : True := trivial; clear hx4)) | (go_at_call 50; clear T4; go_must (refine (slice_any D HDl.out _).mono ?_; rintro e w5 ⟨v5, rfl, hn5⟩; have HB5 := Lib.hid hn5.bs; have HN5 := Lib.hid (HN4.out.grow hn5.ext); have T5 : True := trivial; clear hn5)) | (at_builtin; clear T5; go_must (refine wpList_append_bs rfl _ _ rfl _ rfl HN5.out.own _ rfl HB5.out (by omega) ?_; intro v6 w6 ho6 hg6 hf6; have HN6 := Lib.hid (HN5.out.app ho6 hg6 hf6); have T6 : True := trivial; clear ho6 hg6 hf6)) | (go_at_call 31; clear T6; go_must (refine (refsum_any _ (p5c ++ D) (by rw [List.length_append]; omega) _ HN6.out.bs).mono ?_; rintro e w7 ⟨rfl, hx7⟩; rw [HTT.out]; have HX7 : Hid (Ext w0 w7) := Lib.hid ((HN2.out.ext.trans HN6.out.ext).trans hx7); clear hx7)) | (refine wpl_store27 rfl _ _ rfl w.heap.size T (Sha.zeros 32) rfl rfl HTl.out (by simp [Sha.zeros]) (Blk.ext HR0.out HX7.out) ?_; intro w8 h8 hu8; have H8 := Lib.hid h8; have HX8 := Lib.hid ((HW0.out.trans HX7.out).upd_new hu8 (Nat.le_refl _)); clear h8 hu8))
    exact ret27 rfl w.heap.size T HTl.out rfl H8.out rfl ⟨rfl, HX8.out⟩
  · have hkk : key = kl := by have := HKL2.out; unfold Sha.keyOf at this; rw [if_neg h64] at this; exact this
    have HB : Hid (Bs w (.slice A' key.length cap') kl) := Lib.hid (by rw [← hkk]; exact HK.out)
    clear hkk
    have hR0 : Blk (w.alloc (.cells (row8 (Sha.zeros 32)) 27)) w.heap.size 27 (Sha.zeros 32) := heap_alloc_last w _
    have hw0 : Ext w (w.alloc (.cells (row8 (Sha.zeros 32)) 27)) := (Ext.refl w).alloc _
    have HR0 := Lib.hid hR0
    have HW0 := Lib.hid hw0
    have T0 : True := trivial
    clear hR0 hw0
    go_enter Try.func46, Try.ntmps46
    go_wp2_with (first | (refine wpl_alloc_agg rfl 27 rfl _ zero27.1 ?_) | (go_at_call 91; clear T0; go_must (generalize w.alloc (.cells (row8 (Sha.zeros 32)) 27) = w0 at HR0 HW0 ⊢; refine (rpad_any _ kl 0x36 HKL.out _ (Rd.ext HB.out HW0.out)).mono ?_; rintro e w1 ⟨v1, rfl, hn1⟩; rw [HP36.out] at hn1; have HN1 := Lib.hid hn1; have T1 : True := trivial; clear hn1)) | (at_builtin; clear T1; go_must (refine wpList_append_bs rfl _ _ rfl _ rfl HN1.out.own _ rfl (Rd.ext HM.out (HW0.out.trans HN1.out.ext)) (by omega) ?_; intro v2 w2 ho2 hg2 hf2; have HN2 := Lib.hid (HN1.out.app ho2 hg2 hf2); have T2 : True := trivial; clear ho2 hg2 hf2)) | (go_at_call 91; clear T2; go_must (refine (rpad_any _ kl 0x5c HKL.out _ (Rd.ext HB.out (HW0.out.trans HN2.out.ext))).mono ?_; rintro e w3 ⟨v3, rfl, hn3⟩; rw [HP5c.out] at hn3; have HN3 := Lib.hid hn3; have T3 : True := trivial; clear hn3)) | (go_at_call 31; clear T3; go_must (refine (refsum_any _ (p36 ++ m) (by rw [List.length_append]; omega) _ (Rd.ext HN2.out.bs HN3.out.ext)).mono ?_; rintro e w4 ⟨rfl, hx4⟩; rw [HD.out]; have HN4 := Lib.hid (HN3.out.grow hx4); have T4 : True := trivial; clear hx4)) | (go_at_call 50; clear T4; go_must (refine (slice_any D HDl.out _).mono ?_; rintro e w5 ⟨v5, rfl, hn5⟩; have HB5 := Lib.hid hn5.bs; have HN5 := Lib.hid (HN4.out.grow hn5.ext); have T5 : True := trivial; clear hn5)) | (at_builtin; clear T5; go_must (refine wpList_append_bs rfl _ _ rfl _ rfl HN5.out.own _ rfl HB5.out (by omega) ?_; intro v6 w6 ho6 hg6 hf6; have HN6 := Lib.hid (HN5.out.app ho6 hg6 hf6); have T6 : True := trivial; clear ho6 hg6 hf6)) | (go_at_call 31; clear T6; go_must (refine (refsum_any _ (p5c ++ D) (by rw [List.length_append]; omega) _ HN6.out.bs).mono ?_; rintro e w7 ⟨rfl, hx7⟩; rw [HTT.out]; have HX7 : Hid (Ext w0 w7) := Lib.hid ((HN2.out.ext.trans HN6.out.ext).trans hx7); clear hx7)) | (refine wpl_store27 rfl _ _ rfl w.heap.size T (Sha.zeros 32) rfl rfl HTl.out (by simp [Sha.zeros]) (Blk.ext HR0.out HX7.out) ?_; intro w8 h8 hu8; have H8 := Lib.hid h8; have HX8 := Lib.hid ((HW0.out.trans HX7.out).upd_new hu8 (Nat.le_refl _)); clear h8 hu8))
    exact ret27 rfl w.heap.size T HTl.out rfl H8.out rfl ⟨rfl, HX8.out⟩
end Go.Proofs.Ytapojpjmeadabaa
end

section
/- sacristanlaw03.known: the tag of the chapter's example. -/
namespace Go.Proofs.Ytapojpjmeadabaa
open Go.RowKit
set_option linter.unusedVariables false
set_option linter.unusedSimpArgs false
attribute [local go_sem] lt_ext cell?_ext frozen?_ext shape?_ext

def jK : List UInt8 := [74, 101, 102, 101]
def jA : List UInt8 := [119, 104, 97, 116, 32, 100, 111, 32, 121, 97, 32, 119, 97, 110, 116, 32]
def jB : List UInt8 := [102, 111, 114, 32, 110, 111, 116, 104, 105, 110, 103, 63]
theorem tag_jefe : (Sha.tag jK (jA ++ jB)).getD 0 0 = 91 ∧ (Sha.tag jK (jA ++ jB)).getD 1 0 = 220 ∧ (Sha.tag jK (jA ++ jB)).getD 31 0 = 67 := by decide +kernel
theorem jefe_cells (D : List UInt8) (hD : Hid (Sha.tag jK (jA ++ jB) = D)) (w : World) (g : Nat) (h : Blk w g 27 D) :
    w.cell? ⟨g, 0, none⟩ = some (.int .u8 91) ∧ w.cell? ⟨g, 1, none⟩ = some (.int .u8 220) ∧ w.cell? ⟨g, 31, none⟩ = some (.int .u8 67) := by
  have hl : D.length = 32 := by rw [← hD.out]; exact Sha.tag_length _ _
  obtain ⟨h0, h1, h2⟩ := tag_jefe
  rw [hD.out] at h0 h1 h2
  refine ⟨?_, ?_, ?_⟩
  · rw [h.cell 0 (by omega), h0]; rfl
  · rw [h.cell 1 (by omega), h1]; rfl
  · rw [h.cell 31 (by omega), h2]; rfl
theorem tag_two (D M : List UInt8) (l l' : List UInt8) (u u' kv : Value) (key : List UInt8) (w : World) (g : Nat) (hg : g = w.heap.size) (hM : Hid (l ++ l' = M)) (hD : Hid (Sha.tag key M = D)) (hK : Bs w kv key) (h : Bs w u l) (h' : Bs w u' l') (hk : key.length ≤ 2147483648) (hf : M.length ≤ 1073741824) :
    Calls Try.prog 47 #[kv, .slice (some ⟨g, 0, none⟩) 2 2] (w.alloc (.cells #[u, u'] 23)) fun e w' => e = .returned (Dig D) ∧ Ext w w' := by
  subst hg
  have h1 := tag_fl M kv _ key [u, u'] [l, l'] _ (Rd.ext hK ((Ext.refl w).alloc _)) (Rss.two w u u' l l' h h') hk (Lib.hid (by rw [← hM.out]; simp)) hf
  rw [hD.out] at h1
  exact h1.mono fun e w' ⟨he, hx⟩ => ⟨he, ((Ext.refl w).alloc _).trans hx⟩
theorem tag_one (D M : List UInt8) (u kv : Value) (key : List UInt8) (w : World) (g : Nat) (hg : g = w.heap.size) (hD : Hid (Sha.tag key M = D)) (hK : Bs w kv key) (h : Bs w u M) (hk : key.length ≤ 2147483648) (hf : M.length ≤ 1073741824) :
    Calls Try.prog 47 #[kv, .slice (some ⟨g, 0, none⟩) 1 1] (w.alloc (.cells #[u] 23)) fun e w' => e = .returned (Dig D) ∧ Ext w w' := by
  subst hg
  have h1 := tag_fl M kv _ key [u] [M] _ (Rd.ext hK ((Ext.refl w).alloc _)) (Rss.one w u M h) hk (Lib.hid (by simp)) hf
  rw [hD.out] at h1
  exact h1.mono fun e w' ⟨he, hx⟩ => ⟨he, ((Ext.refl w).alloc _).trans hx⟩
theorem check_one (D M tag : List UInt8) (u kv tv : Value) (key : List UInt8) (w : World) (g : Nat) (hg : g = w.heap.size) (b : Bool) (hD : Hid (Sha.tag key M = D)) (hb : Hid (decide (D = tag) = b)) (hK : Bs w kv key) (hT : Bs w tv tag) (h : Bs w u M) (hk : key.length ≤ 2147483648) (hf : M.length ≤ 1073741824) :
    Calls Try.prog 48 #[kv, tv, .slice (some ⟨g, 0, none⟩) 1 1] (w.alloc (.cells #[u] 23)) fun e w' => e = .returned (.bool b) ∧ Ext w w' := by
  subst hg
  have h1 := check_any M kv tv _ key tag [u] [M] _ (Rd.ext hK ((Ext.refl w).alloc _)) (Rd.ext hT ((Ext.refl w).alloc _)) (Rss.one w u M h) hk (Lib.hid (by simp)) hf
  rw [hD.out, hb.out] at h1
  exact h1.mono fun e w' ⟨he, hx⟩ => ⟨he, ((Ext.refl w).alloc _).trans hx⟩
set_option maxRecDepth 100000 in
set_option maxHeartbeats 1000000 in
theorem known3_of (M D : List UInt8) (hM : Hid (jA ++ jB = M)) (hML : Hid (M = [119, 104, 97, 116, 32, 100, 111, 32, 121, 97, 32, 119, 97, 110, 116, 32, 102, 111, 114, 32, 110, 111, 116, 104, 105, 110, 103, 63])) (hm : M.length ≤ 28) (hD : Hid (Sha.tag jK M = D)) (w : World) : Calls Try.prog 45 #[] w fun e w' => e = .returned (.bool true) ∧ Ext w w' := by
  have HDl : Hid (D.length = 32) := Lib.hid (by rw [← hD.out]; exact Sha.tag_length _ _)
  have HD2 : Hid (Sha.tag jK (jA ++ jB) = D) := Lib.hid (by rw [hM.out]; exact hD.out)
  have T0 : True := trivial
  go_enter Try.func45, Try.ntmps45
  go_wp2_with (first | (refine wpl_conv23 rfl (.tmp 2) rfl jK 4 rfl _ rfl (by decide) rfl ?_; intro wa va hba hxa; obtain ⟨A, cap, rfl, _, _, _, _⟩ := hba.is; have HBA := Lib.hid hba; have HXA := Lib.hid hxa; clear hba hxa) | (refine wpl_conv23 rfl (.tmp 4) rfl jA 16 rfl _ rfl (by decide) rfl ?_; intro wb vb hbb hxb; obtain ⟨A2, cap2, rfl, _, _, _, _⟩ := hbb.is; have HBB := Lib.hid hbb; have HXB := Lib.hid hxb; clear hbb hxb) | (refine wpl_conv23 rfl (.tmp 6) rfl jB 12 rfl _ rfl (by decide) rfl ?_; intro wc vc hbc hxc; obtain ⟨A3, cap3, rfl, _, _, _, _⟩ := hbc.is; have HBC := Lib.hid hbc; have HXC := Lib.hid hxc; clear hbc hxc) | (go_at_call 47; go_must (refine (tag_two D M jA jB _ _ _ jK _ _ rfl hM hD (Rd.ext HBA.out (HXB.out.trans HXC.out)) (Rd.ext HBB.out HXC.out) HBC.out (by decide) (by omega)).mono ?_; rintro e w1 ⟨rfl, hx1⟩; have HX1 := Lib.hid ((HXA.out.trans (HXB.out.trans HXC.out)).trans hx1); clear hx1)) | (refine wpl_alloc_agg rfl 27 rfl _ zero27.1 ?_) | (refine wpl_store27 rfl _ _ rfl w1.heap.size D (Sha.zeros 32) rfl rfl HDl.out (by simp [Sha.zeros]) (heap_alloc_last w1 _) ?_; intro w2 h2 hu2; have H2 : Hid (Blk w2 w1.heap.size 27 D) := Lib.hid h2; have hs2 : w1.heap.size < w2.heap.size := H2.out.lt; obtain ⟨c0, c1, c31⟩ := jefe_cells D HD2 w2 w1.heap.size h2; have HX2 := Lib.hid (HX1.out.trans (((Ext.refl w1).alloc _).upd_new hu2 (Nat.le_refl _))); clear h2 hu2) | (refine wpl_conv23 rfl (.tmp 24) rfl jK 4 rfl _ rfl (by decide) rfl ?_; intro wd vd hbd hxd; obtain ⟨A4, cap4, rfl, _, _, _, _⟩ := hbd.is; have HBD := Lib.hid hbd; have HXD := Lib.hid hxd; clear hbd hxd) | (refine wpl_conv23 rfl (.tmp 27) rfl M 28 (by rw [hML.out]; rfl) _ (by rw [hML.out]; rfl) (by omega) rfl ?_; intro we ve hbe hxe; obtain ⟨A5, cap5, rfl, _, _, _, _⟩ := hbe.is; have HBE := Lib.hid hbe; have HXE := Lib.hid hxe; clear hbe hxe) | (go_at_call 48; go_must (refine (check_one D M D _ _ _ jK _ _ rfl true hD (Lib.hid (by simp)) (Rd.ext HBD.out HXE.out) (Rd.ext (Blk.whole H2.out 32 32 HDl.out.symm (Nat.le_refl _) (by decide)) (HXD.out.trans HXE.out)) HBE.out (by decide) (by omega)).mono ?_; rintro e w3 ⟨rfl, hx3⟩; have HX3 := Lib.hid ((HX2.out.trans (HXD.out.trans HXE.out)).trans hx3); clear hx3)))
  go_ret
  exact ⟨rfl, HX3.out⟩
theorem known3_any (w : World) : Calls Try.prog 45 #[] w fun e w' => e = .returned (.bool true) ∧ Ext w w' :=
  known3_of (jA ++ jB) (Sha.tag jK (jA ++ jB)) (Lib.hid rfl) (Lib.hid rfl) (by decide) (Lib.hid rfl) w
end Go.Proofs.Ytapojpjmeadabaa
end

section
/- mac.Derive, sacristanref03.Derive: bytes of a key. -/
namespace Go.Proofs.Ytapojpjmeadabaa
open Go.RowKit
set_option linter.unusedVariables false
set_option linter.unusedSimpArgs false
attribute [local go_sem] lt_ext cell?_ext frozen?_ext shape?_ext

/-- The tags of the numbers 1 .. r, one behind the other. -/
def strm (key lab : List UInt8) : Nat → List UInt8
  | 0 => []
  | r + 1 => strm key lab r ++ Sha.tag key (lab ++ be (r + 1) 4)
theorem strm_length (key lab : List UInt8) : ∀ r, (strm key lab r).length = 32 * r
  | 0 => rfl
  | r + 1 => by rw [strm, List.length_append, strm_length key lab r, Sha.tag_length]; omega
def drv (key lab : List UInt8) (n : Nat) : List UInt8 := (strm key lab ((n + 31) / 32)).take n
theorem drv_length (key lab : List UInt8) (n : Nat) : (drv key lab n).length = n := by
  unfold drv; rw [List.length_take, strm_length]; omega
theorem strm_pre (key lab : List UInt8) (a : Nat) : ∀ b, a ≤ b → (strm key lab b).take (32 * a) = strm key lab a := by
  intro b
  induction b with
  | zero =>
    intro h
    have h0 : a = 0 := by omega
    rw [h0]
    rfl
  | succ b ih =>
    intro h
    by_cases e : a = b + 1
    · subst e; exact List.take_of_length_le (by rw [strm_length]; omega)
    · rw [strm, List.take_append_of_le_length (by rw [strm_length]; omega)]
      exact ih (by omega)
theorem strm_take (key lab : List UInt8) (n r : Nat) (h : n ≤ 32 * r) : (strm key lab r).take n = drv key lab n := by
  unfold drv
  rw [← strm_pre key lab ((n + 31) / 32) r (by omega), List.take_take]
  congr 1
  omega
theorem drv_take (key lab : List UInt8) (n m : Nat) (h : n ≤ m) : (drv key lab m).take n = drv key lab n := by
  unfold drv
  rw [List.take_take, Nat.min_eq_left h]
  exact strm_take key lab n _ (by omega)
set_option maxRecDepth 100000 in
set_option maxHeartbeats 2000000 in
theorem derive_in (kv : Value) (key lab : List UInt8) (s : ByteArray) (N : Nat) (hN0 : 0 < N) (hN : N ≤ 1024) (w : World) (hK : Bs w kv key) (hk : key.length ≤ 2147483648) (HLAB : Hid (s.data.toList = lab)) (hlab : lab.length ≤ 1000) :
    Calls Try.prog 52 #[kv, .string s, .int .i64 (N : Int)] w fun e w' => ∃ v, e = .returned v ∧ Bs w' v (drv key lab N) ∧ Ext w w' := by
  have HK := Lib.hid hK
  clear hK
  go_enter Try.func52, Try.ntmps52
  go_wp2
  go_step3
  go_wp2
  go_step3
  go_wp2
  go_loopw [7, 8, 9] (fun v i p wr => ∃ r : Nat, r ≤ (N + 31) / 32 ∧ i = .int .u64 ((r : Int) + 1) ∧ NewB w v (strm key lab r) wr) (fun v i p _ => 40 - (intOf i).toNat)
  case atStart => exact ⟨0, by omega, rfl, NewB.nil (Ext.refl w)⟩
  case round =>
    obtain ⟨r, hr, rfl, hnew⟩ := hrel
    obtain ⟨A1, cap1, rfl, hcap1, hcm1, _, _⟩ := hnew.bs.is
    have hl := strm_length key lab r
    have HT : Hid (∀ h : N ≤ 32 * r, (strm key lab r).take N = drv key lab N) := Lib.hid (strm_take key lab N r)
    obtain ⟨D, hD⟩ : ∃ D, Sha.tag key (lab ++ be (r + 1) 4) = D := ⟨_, rfl⟩
    have HS : Hid (strm key lab (r + 1) = strm key lab r ++ D) := Lib.hid (by rw [← hD]; rfl)
    have HDl : Hid (D.length = 32) := Lib.hid (by rw [← hD]; exact Sha.tag_length _ _)
    obtain ⟨M, hM⟩ : ∃ M, lab ++ be (r + 1) 4 = M := ⟨_, rfl⟩
    rw [hM] at hD
    have hMl : M.length ≤ 1004 := by rw [← hM, List.length_append, be_length]; omega
    have HD := Lib.hid hD
    have HM := Lib.hid hM
    have HN := Lib.hid hnew
    obtain ⟨L, hL⟩ : ∃ L, strm key lab r = L := ⟨_, rfl⟩
    rw [hL] at hl HT HS HN
    rw [hL] at hcap1
    rw [hL]
    have HL := Lib.hid hl
    have hLle : L.length ≤ 1100 := by omega
    clear hnew hD hM hL
    by_cases hlt : L.length < N
    · clear hl
      go_wp2_with (first | (refine wpl_bytes rfl (.tmp 20) rfl s rfl lab HLAB.out (by omega) ?_; intro va wa hna; obtain ⟨A2, cap2, rfl, _, _, _, _⟩ := hna.bs.is; have HNA := Lib.hid hna; clear hna) | (go_at_call 95; go_must (refine (cput_any (r + 1) (by omega) 4 (by decide) (by decide) _).mono ?_; rintro e wb ⟨vb, rfl, hnb⟩; obtain ⟨A3, cap3, rfl, _, _, _, _⟩ := hnb.bs.is; have HNB := Lib.hid hnb; clear hnb)) | (go_at_call 47; go_must (refine (tag_two D M lab (be (r + 1) 4) _ _ _ key _ _ rfl HM HD (Rd.ext HK.out (HN.out.ext.trans (HNA.out.ext.trans HNB.out.ext))) (Rd.ext HNA.out.bs HNB.out.ext) HNB.out.bs (by omega) (by omega)).mono ?_; rintro e wc ⟨rfl, hxc⟩; have HNC := Lib.hid (HN.out.grow ((HNA.out.ext.trans HNB.out.ext).trans hxc)); clear hxc)) | (refine wpl_alloc_agg rfl 27 rfl _ zero27.1 ?_) | (refine wpl_store27 rfl _ _ rfl wc.heap.size D (Sha.zeros 32) rfl rfl HDl.out (by simp [Sha.zeros]) (heap_alloc_last wc _) ?_; intro wd hd hud; have HDD : Hid (Blk wd wc.heap.size 27 D) := Lib.hid hd; have hsd : wc.heap.size < wd.heap.size := HDD.out.lt; have HND := Lib.hid (HNC.out.grow (((Ext.refl wc).alloc _).upd_new hud (Nat.le_refl _))); clear hd hud) | (at_builtin; go_must (refine wpList_append_bs rfl _ _ rfl _ rfl HND.out.own _ rfl (Blk.whole HDD.out 32 32 HDl.out.symm (Nat.le_refl _) (by decide)) (by have := HDl.out; omega) ?_; intro ve we hoe hge hfe; have HNE := Lib.hid (HND.out.app hoe hge hfe); clear hoe hge hfe)))
      go_roundw
      case rel => exact ⟨r + 1, by have := HL.out; omega, by go_num, by rw [HS.out]; exact HNE.out⟩
      case measure => simp [intOf]; omega
    · have hge : N ≤ L.length := by omega
      clear hl
      have HB := Lib.hid HN.out.bs
      have HX := Lib.hid HN.out.ext
      go_wp2_with (refine wpList_slice_bs rfl (.tmp 29) none (some (.tmp 30)) rfl _ rfl HB.out 0 N (.inl ⟨rfl, rfl⟩) (by exact .inr rfl) (by omega) (by omega) ?_; intro v2 hv2; have HV2 := Lib.hid hv2; clear hv2)
      rw [Exit.noGoto_ret]
      go_ret
      exact ⟨_, rfl, by have h := HV2.out; rw [List.drop_zero, HT.out (by have := HL.out; omega)] at h; exact h, HX.out⟩
set_option maxRecDepth 100000 in
set_option maxHeartbeats 2000000 in
theorem derive_big (kv : Value) (key lab : List UInt8) (s : ByteArray) (n : Int) (hn : 1024 < n) (w : World) (hK : Bs w kv key) (hk : key.length ≤ 2147483648) (HLAB : Hid (s.data.toList = lab)) (hlab : lab.length ≤ 1000) :
    Calls Try.prog 52 #[kv, .string s, .int .i64 n] w fun e w' => ∃ v, e = .returned v ∧ Bs w' v (drv key lab 1024) ∧ Ext w w' := by
  have HK := Lib.hid hK
  clear hK
  go_enter Try.func52, Try.ntmps52
  go_wp2
  go_step3
  go_wp2
  go_step3
  go_wp2
  go_loopw [7, 8, 9] (fun v i p wr => ∃ r : Nat, r ≤ (1024 + 31) / 32 ∧ i = .int .u64 ((r : Int) + 1) ∧ NewB w v (strm key lab r) wr) (fun v i p _ => 40 - (intOf i).toNat)
  case atStart => exact ⟨0, by omega, rfl, NewB.nil (Ext.refl w)⟩
  case round =>
    obtain ⟨r, hr, rfl, hnew⟩ := hrel
    obtain ⟨A1, cap1, rfl, hcap1, hcm1, _, _⟩ := hnew.bs.is
    have hl := strm_length key lab r
    have HT : Hid (∀ h : 1024 ≤ 32 * r, (strm key lab r).take 1024 = drv key lab 1024) := Lib.hid (strm_take key lab 1024 r)
    obtain ⟨D, hD⟩ : ∃ D, Sha.tag key (lab ++ be (r + 1) 4) = D := ⟨_, rfl⟩
    have HS : Hid (strm key lab (r + 1) = strm key lab r ++ D) := Lib.hid (by rw [← hD]; rfl)
    have HDl : Hid (D.length = 32) := Lib.hid (by rw [← hD]; exact Sha.tag_length _ _)
    obtain ⟨M, hM⟩ : ∃ M, lab ++ be (r + 1) 4 = M := ⟨_, rfl⟩
    rw [hM] at hD
    have hMl : M.length ≤ 1004 := by rw [← hM, List.length_append, be_length]; omega
    have HD := Lib.hid hD
    have HM := Lib.hid hM
    have HN := Lib.hid hnew
    obtain ⟨L, hL⟩ : ∃ L, strm key lab r = L := ⟨_, rfl⟩
    rw [hL] at hl HT HS HN
    rw [hL] at hcap1
    rw [hL]
    have HL := Lib.hid hl
    have hLle : L.length ≤ 1100 := by omega
    clear hnew hD hM hL
    by_cases hlt : L.length < 1024
    · clear hl
      go_wp2_with (first | (refine wpl_bytes rfl (.tmp 20) rfl s rfl lab HLAB.out (by omega) ?_; intro va wa hna; obtain ⟨A2, cap2, rfl, _, _, _, _⟩ := hna.bs.is; have HNA := Lib.hid hna; clear hna) | (go_at_call 95; go_must (refine (cput_any (r + 1) (by omega) 4 (by decide) (by decide) _).mono ?_; rintro e wb ⟨vb, rfl, hnb⟩; obtain ⟨A3, cap3, rfl, _, _, _, _⟩ := hnb.bs.is; have HNB := Lib.hid hnb; clear hnb)) | (go_at_call 47; go_must (refine (tag_two D M lab (be (r + 1) 4) _ _ _ key _ _ rfl HM HD (Rd.ext HK.out (HN.out.ext.trans (HNA.out.ext.trans HNB.out.ext))) (Rd.ext HNA.out.bs HNB.out.ext) HNB.out.bs (by omega) (by omega)).mono ?_; rintro e wc ⟨rfl, hxc⟩; have HNC := Lib.hid (HN.out.grow ((HNA.out.ext.trans HNB.out.ext).trans hxc)); clear hxc)) | (refine wpl_alloc_agg rfl 27 rfl _ zero27.1 ?_) | (refine wpl_store27 rfl _ _ rfl wc.heap.size D (Sha.zeros 32) rfl rfl HDl.out (by simp [Sha.zeros]) (heap_alloc_last wc _) ?_; intro wd hd hud; have HDD : Hid (Blk wd wc.heap.size 27 D) := Lib.hid hd; have hsd : wc.heap.size < wd.heap.size := HDD.out.lt; have HND := Lib.hid (HNC.out.grow (((Ext.refl wc).alloc _).upd_new hud (Nat.le_refl _))); clear hd hud) | (at_builtin; go_must (refine wpList_append_bs rfl _ _ rfl _ rfl HND.out.own _ rfl (Blk.whole HDD.out 32 32 HDl.out.symm (Nat.le_refl _) (by decide)) (by have := HDl.out; omega) ?_; intro ve we hoe hge hfe; have HNE := Lib.hid (HND.out.app hoe hge hfe); clear hoe hge hfe)))
      go_roundw
      case rel => exact ⟨r + 1, by have := HL.out; omega, by go_num, by rw [HS.out]; exact HNE.out⟩
      case measure => simp [intOf]; omega
    · have hge : 1024 ≤ L.length := by omega
      clear hl
      have HB := Lib.hid HN.out.bs
      have HX := Lib.hid HN.out.ext
      go_wp2_with (refine wpList_slice_bs rfl (.tmp 29) none (some (.tmp 30)) rfl _ rfl HB.out 0 1024 (.inl ⟨rfl, rfl⟩) (by exact .inr rfl) (by omega) (by omega) ?_; intro v2 hv2; have HV2 := Lib.hid hv2; clear hv2)
      rw [Exit.noGoto_ret]
      go_ret
      exact ⟨_, rfl, by have h := HV2.out; rw [List.drop_zero, HT.out (by have := HL.out; omega)] at h; exact h, HX.out⟩
set_option maxRecDepth 100000 in
set_option maxHeartbeats 2000000 in
theorem derive_neg (kv : Value) (key lab : List UInt8) (s : ByteArray) (n : Int) (hn : n ≤ 0) (w : World) (hK : Bs w kv key) (hk : key.length ≤ 2147483648) (HLAB : Hid (s.data.toList = lab)) (hlab : lab.length ≤ 1000) :
    Calls Try.prog 52 #[kv, .string s, .int .i64 n] w fun e w' => ∃ v, e = .returned v ∧ Bs w' v (drv key lab 0) ∧ Ext w w' := by
  have HK := Lib.hid hK
  clear hK
  have hn1 : ¬ 1024 < n := by omega
  have hn0 : ¬ 0 < n := by omega
  go_enter Try.func52, Try.ntmps52
  go_wp2
  go_step3
  go_wp2
  go_step3
  go_wp2
  go_loopw [7] (fun v wr => v = .slice none 0 0 ∧ Ext w wr) (fun v _ => 0)
  case atStart => exact ⟨rfl, Ext.refl w⟩
  case round =>
    obtain ⟨rfl, hx⟩ := hrel
    have HX := Lib.hid hx
    clear hx
    go_wp2_with (refine wpList_slice_bs rfl (.tmp 29) none (some (.tmp 30)) rfl _ rfl (l := []) (Rd.nil _ 1) 0 0 (.inl ⟨rfl, rfl⟩) (by exact .inr rfl) (by omega) (by simp) ?_; intro v2 hv2; have HV2 := Lib.hid hv2; clear hv2)
    rw [Exit.noGoto_ret]
    go_ret
    exact ⟨_, rfl, HV2.out, HX.out⟩
set_option maxRecDepth 100000 in
set_option maxHeartbeats 2000000 in
theorem rderive_in (kv : Value) (key lab : List UInt8) (s : ByteArray) (N : Nat) (hN0 : 0 < N) (hN : N ≤ 1024) (w : World) (hK : Bs w kv key) (hk : key.length ≤ 2147483648) (HLAB : Hid (s.data.toList = lab)) (hlab : lab.length ≤ 1000) :
    Calls Try.prog 53 #[kv, .string s, .int .i64 (N : Int)] w fun e w' => ∃ v, e = .returned v ∧ Bs w' v (drv key lab N) ∧ Ext w w' := by
  have HK := Lib.hid hK
  clear hK
  go_enter Try.func53, Try.ntmps53
  go_wp2
  go_loopw [7, 8, 9] (fun v i p wr => ∃ r : Nat, r ≤ (N + 31) / 32 ∧ i = .int .i64 ((r : Int) + 1) ∧ NewB w v (strm key lab r) wr) (fun v i p _ => 40 - (intOf i).toNat)
  case atStart => exact ⟨0, by omega, rfl, NewB.nil (Ext.refl w)⟩
  case round =>
    obtain ⟨r, hr, rfl, hnew⟩ := hrel
    obtain ⟨A1, cap1, rfl, hcap1, hcm1, _, _⟩ := hnew.bs.is
    have hl := strm_length key lab r
    have HT : Hid (∀ h : N ≤ 32 * r, (strm key lab r).take N = drv key lab N) := Lib.hid (strm_take key lab N r)
    obtain ⟨D, hD⟩ : ∃ D, Sha.tag key (lab ++ be (r + 1) 4) = D := ⟨_, rfl⟩
    have HS : Hid (strm key lab (r + 1) = strm key lab r ++ D) := Lib.hid (by rw [← hD]; rfl)
    have HDl : Hid (D.length = 32) := Lib.hid (by rw [← hD]; exact Sha.tag_length _ _)
    obtain ⟨M, hM⟩ : ∃ M, lab ++ be (r + 1) 4 = M := ⟨_, rfl⟩
    rw [hM] at hD
    have hMl : M.length ≤ 1004 := by rw [← hM, List.length_append, be_length]; omega
    have HD := Lib.hid hD
    have HM := Lib.hid hM
    have HN := Lib.hid hnew
    obtain ⟨L, hL⟩ : ∃ L, strm key lab r = L := ⟨_, rfl⟩
    rw [hL] at hl HT HS HN
    rw [hL] at hcap1
    rw [hL]
    have HL := Lib.hid hl
    have hLle : L.length ≤ 1100 := by omega
    clear hnew hD hM hL
    by_cases hlt : L.length < N
    · clear hl
      have T0 : True := trivial
      go_wp2_with (first | (refine wpl_bytes rfl (.tmp 19) rfl s rfl lab HLAB.out (by omega) ?_; intro va wa hna; have HNA := Lib.hid hna; clear hna) | (go_at_call 79; go_must (refine (put_any (r + 1) (by omega) 4 (by decide) (by decide) _).mono ?_; rintro e wb ⟨vb, rfl, hnb⟩; have HNB := Lib.hid hnb; clear hnb)) | (at_builtin; clear T0; go_must (refine wpList_append_m rfl _ _ rfl _ rfl (HNA.out.grow HNB.out.ext).own _ rfl HNB.out.bs (by rw [be_length]; omega) ?_; intro vc wc hoc hgc hfc; have HNM := Lib.hid ((HNA.out.grow HNB.out.ext).app hoc hgc hfc); rw [HM.out] at HNM; have T1 : True := trivial; clear hoc hgc hfc)) | (go_at_call 46; go_must (refine (rtag_any _ _ key M _ (Rd.ext HK.out (HN.out.ext.trans HNM.out.ext)) HNM.out.bs (by omega) (by omega)).mono ?_; rintro e wd ⟨rfl, hxd⟩; rw [HD.out]; have HND := Lib.hid (HN.out.grow (HNM.out.ext.trans hxd)); clear hxd)) | (go_at_call 50; go_must (refine (slice_any D HDl.out _).mono ?_; rintro e wf ⟨vf, rfl, hnf⟩; have HBF := Lib.hid hnf.bs; have HNF := Lib.hid (HND.out.grow hnf.ext); clear hnf)) | (at_builtin; clear T1; go_must (refine wpList_append_bs rfl _ _ rfl _ rfl HNF.out.own _ rfl HBF.out (by have := HDl.out; omega) ?_; intro ve we hoe hge hfe; have HNE := Lib.hid (HNF.out.app hoe hge hfe); clear hoe hge hfe)))
      go_roundw
      case rel => exact ⟨r + 1, by have := HL.out; omega, by go_num, by rw [HS.out]; exact HNE.out⟩
      case measure => simp [intOf]; omega
    · have hge : N ≤ L.length := by omega
      clear hl
      have HB := Lib.hid HN.out.bs
      have HX := Lib.hid HN.out.ext
      go_wp2_with (refine wpList_slice_bs rfl (.tmp 32) none (some (.tmp 33)) rfl _ rfl HB.out 0 N (.inl ⟨rfl, rfl⟩) (by exact .inr rfl) (by omega) (by omega) ?_; intro v2 hv2; have HV2 := Lib.hid hv2; clear hv2)
      go_ret
      exact ⟨_, rfl, by have h := HV2.out; rw [List.drop_zero, HT.out (by have := HL.out; omega)] at h; exact h, HX.out⟩
set_option maxRecDepth 100000 in
set_option maxHeartbeats 2000000 in
theorem rderive_big (kv : Value) (key lab : List UInt8) (s : ByteArray) (n : Int) (hn : 1024 < n) (w : World) (hK : Bs w kv key) (hk : key.length ≤ 2147483648) (HLAB : Hid (s.data.toList = lab)) (hlab : lab.length ≤ 1000) :
    Calls Try.prog 53 #[kv, .string s, .int .i64 n] w fun e w' => ∃ v, e = .returned v ∧ Bs w' v (drv key lab 1024) ∧ Ext w w' := by
  have HK := Lib.hid hK
  clear hK
  go_enter Try.func53, Try.ntmps53
  go_wp2
  go_loopw [7, 8, 9] (fun v i p wr => ∃ r : Nat, r ≤ (1024 + 31) / 32 ∧ i = .int .i64 ((r : Int) + 1) ∧ NewB w v (strm key lab r) wr) (fun v i p _ => 40 - (intOf i).toNat)
  case atStart => exact ⟨0, by omega, rfl, NewB.nil (Ext.refl w)⟩
  case round =>
    obtain ⟨r, hr, rfl, hnew⟩ := hrel
    obtain ⟨A1, cap1, rfl, hcap1, hcm1, _, _⟩ := hnew.bs.is
    have hl := strm_length key lab r
    have HT : Hid (∀ h : 1024 ≤ 32 * r, (strm key lab r).take 1024 = drv key lab 1024) := Lib.hid (strm_take key lab 1024 r)
    obtain ⟨D, hD⟩ : ∃ D, Sha.tag key (lab ++ be (r + 1) 4) = D := ⟨_, rfl⟩
    have HS : Hid (strm key lab (r + 1) = strm key lab r ++ D) := Lib.hid (by rw [← hD]; rfl)
    have HDl : Hid (D.length = 32) := Lib.hid (by rw [← hD]; exact Sha.tag_length _ _)
    obtain ⟨M, hM⟩ : ∃ M, lab ++ be (r + 1) 4 = M := ⟨_, rfl⟩
    rw [hM] at hD
    have hMl : M.length ≤ 1004 := by rw [← hM, List.length_append, be_length]; omega
    have HD := Lib.hid hD
    have HM := Lib.hid hM
    have HN := Lib.hid hnew
    obtain ⟨L, hL⟩ : ∃ L, strm key lab r = L := ⟨_, rfl⟩
    rw [hL] at hl HT HS HN
    rw [hL] at hcap1
    rw [hL]
    have HL := Lib.hid hl
    have hLle : L.length ≤ 1100 := by omega
    clear hnew hD hM hL
    by_cases hlt : L.length < 1024
    · clear hl
      have T0 : True := trivial
      go_wp2_with (first | (refine wpl_bytes rfl (.tmp 19) rfl s rfl lab HLAB.out (by omega) ?_; intro va wa hna; have HNA := Lib.hid hna; clear hna) | (go_at_call 79; go_must (refine (put_any (r + 1) (by omega) 4 (by decide) (by decide) _).mono ?_; rintro e wb ⟨vb, rfl, hnb⟩; have HNB := Lib.hid hnb; clear hnb)) | (at_builtin; clear T0; go_must (refine wpList_append_m rfl _ _ rfl _ rfl (HNA.out.grow HNB.out.ext).own _ rfl HNB.out.bs (by rw [be_length]; omega) ?_; intro vc wc hoc hgc hfc; have HNM := Lib.hid ((HNA.out.grow HNB.out.ext).app hoc hgc hfc); rw [HM.out] at HNM; have T1 : True := trivial; clear hoc hgc hfc)) | (go_at_call 46; go_must (refine (rtag_any _ _ key M _ (Rd.ext HK.out (HN.out.ext.trans HNM.out.ext)) HNM.out.bs (by omega) (by omega)).mono ?_; rintro e wd ⟨rfl, hxd⟩; rw [HD.out]; have HND := Lib.hid (HN.out.grow (HNM.out.ext.trans hxd)); clear hxd)) | (go_at_call 50; go_must (refine (slice_any D HDl.out _).mono ?_; rintro e wf ⟨vf, rfl, hnf⟩; have HBF := Lib.hid hnf.bs; have HNF := Lib.hid (HND.out.grow hnf.ext); clear hnf)) | (at_builtin; clear T1; go_must (refine wpList_append_bs rfl _ _ rfl _ rfl HNF.out.own _ rfl HBF.out (by have := HDl.out; omega) ?_; intro ve we hoe hge hfe; have HNE := Lib.hid (HNF.out.app hoe hge hfe); clear hoe hge hfe)))
      go_roundw
      case rel => exact ⟨r + 1, by have := HL.out; omega, by go_num, by rw [HS.out]; exact HNE.out⟩
      case measure => simp [intOf]; omega
    · have hge : 1024 ≤ L.length := by omega
      clear hl
      have HB := Lib.hid HN.out.bs
      have HX := Lib.hid HN.out.ext
      go_wp2_with (refine wpList_slice_bs rfl (.tmp 32) none (some (.tmp 33)) rfl _ rfl HB.out 0 1024 (.inl ⟨rfl, rfl⟩) (by exact .inr rfl) (by omega) (by omega) ?_; intro v2 hv2; have HV2 := Lib.hid hv2; clear hv2)
      go_ret
      exact ⟨_, rfl, by have h := HV2.out; rw [List.drop_zero, HT.out (by have := HL.out; omega)] at h; exact h, HX.out⟩
set_option maxRecDepth 100000 in
set_option maxHeartbeats 2000000 in
theorem rderive_neg (kv : Value) (key lab : List UInt8) (s : ByteArray) (n : Int) (hn : n ≤ 0) (w : World) (hK : Bs w kv key) (hk : key.length ≤ 2147483648) (HLAB : Hid (s.data.toList = lab)) (hlab : lab.length ≤ 1000) :
    Calls Try.prog 53 #[kv, .string s, .int .i64 n] w fun e w' => ∃ v, e = .returned v ∧ Bs w' v (drv key lab 0) ∧ Ext w w' := by
  have HK := Lib.hid hK
  clear hK
  have hn1 : ¬ 1024 < n := by omega
  have hn0 : ¬ 0 < n := by omega
  go_enter Try.func53, Try.ntmps53
  go_wp2
  go_loopw [7] (fun v wr => v = .slice none 0 0 ∧ Ext w wr) (fun v _ => 0)
  case atStart => exact ⟨rfl, Ext.refl w⟩
  case round =>
    obtain ⟨rfl, hx⟩ := hrel
    have HX := Lib.hid hx
    clear hx
    go_wp2_with (refine wpList_slice_bs rfl (.tmp 32) none (some (.tmp 33)) rfl _ rfl (l := []) (Rd.nil _ 1) 0 0 (.inl ⟨rfl, rfl⟩) (by exact .inr rfl) (by omega) (by simp) ?_; intro v2 hv2; have HV2 := Lib.hid hv2; clear hv2)
    go_ret
    exact ⟨_, rfl, HV2.out, HX.out⟩
end Go.Proofs.Ytapojpjmeadabaa
end

section
/- sacristanlaw03.MacDerives, MacBegins. -/
namespace Go.Proofs.Ytapojpjmeadabaa
open Go.RowKit
set_option linter.unusedVariables false
set_option linter.unusedSimpArgs false
attribute [local go_sem] lt_ext cell?_ext frozen?_ext shape?_ext

theorem Bs.pre {w : World} {A : Option Addr} {n cap : Nat} {l : List UInt8} (h : Bs w (.slice A n cap) l) (k : Nat) (hk : k ≤ l.length) : Bs w (.slice A k cap) (l.take k) := by
  obtain ⟨A', cap', hv, h1, h2, h3, h4⟩ := h.is
  injection hv with e1 e2 e3
  subst e1; subst e3
  have hl : (l.take k).length = k := by simp; omega
  unfold Bs
  rw [hl]
  refine ⟨by simp; omega, A, cap, rfl, by omega, h2, h3, fun h0 => ?_⟩
  obtain ⟨b, o, ha, hb, hc⟩ := h4 (by omega)
  refine ⟨b, o, ha, hb, fun j u hj => hc j u ?_⟩
  rw [List.map_take, List.getElem?_take] at hj
  split at hj
  · exact hj
  · cases hj
theorem same_true (va vb : Value) (la lb : List UInt8) (w : World) (hA : Bs w va la) (hB : Bs w vb lb) (h : Hid (decide (la = lb) = true)) :
    Calls Try.prog 49 #[va, vb] w fun e w' => e = .returned (.bool true) ∧ w = w' := by
  have h1 := same_any va vb la lb w hA hB
  rw [h.out] at h1
  exact h1
def dN (n : Int) : Nat := if n ≤ 0 then 0 else if n ≤ 1024 then n.toNat else 1024
theorem derive_any (L : List UInt8) (n : Int) (kv : Value) (key lab : List UInt8) (s : ByteArray) (w : World) (hL : Hid (drv key lab (dN n) = L)) (hK : Bs w kv key) (hk : key.length ≤ 2147483648) (HLAB : Hid (s.data.toList = lab)) (hlab : lab.length ≤ 1000) :
    Calls Try.prog 52 #[kv, .string s, .int .i64 n] w fun e w' => ∃ v, e = .returned v ∧ Bs w' v L ∧ Ext w w' := by
  have h := hL.out
  unfold dN at h
  by_cases h0 : n ≤ 0
  · rw [if_pos h0] at h
    subst h
    exact derive_neg kv key lab s n h0 w hK hk HLAB hlab
  · rw [if_neg h0] at h
    by_cases h1 : n ≤ 1024
    · rw [if_pos h1] at h
      obtain ⟨N, rfl⟩ : ∃ N : Nat, n = N := ⟨n.toNat, by omega⟩
      rw [Int.toNat_natCast] at h
      subst h
      exact derive_in kv key lab s N (by omega) (by omega) w hK hk HLAB hlab
    · rw [if_neg h1] at h
      subst h
      exact derive_big kv key lab s n (by omega) w hK hk HLAB hlab
theorem rderive_any (L : List UInt8) (n : Int) (kv : Value) (key lab : List UInt8) (s : ByteArray) (w : World) (hL : Hid (drv key lab (dN n) = L)) (hK : Bs w kv key) (hk : key.length ≤ 2147483648) (HLAB : Hid (s.data.toList = lab)) (hlab : lab.length ≤ 1000) :
    Calls Try.prog 53 #[kv, .string s, .int .i64 n] w fun e w' => ∃ v, e = .returned v ∧ Bs w' v L ∧ Ext w w' := by
  have h := hL.out
  unfold dN at h
  by_cases h0 : n ≤ 0
  · rw [if_pos h0] at h
    subst h
    exact rderive_neg kv key lab s n h0 w hK hk HLAB hlab
  · rw [if_neg h0] at h
    by_cases h1 : n ≤ 1024
    · rw [if_pos h1] at h
      obtain ⟨N, rfl⟩ : ∃ N : Nat, n = N := ⟨n.toNat, by omega⟩
      rw [Int.toNat_natCast] at h
      subst h
      exact rderive_in kv key lab s N (by omega) (by omega) w hK hk HLAB hlab
    · rw [if_neg h1] at h
      subst h
      exact rderive_big kv key lab s n (by omega) w hK hk HLAB hlab
set_option maxRecDepth 100000 in
set_option maxHeartbeats 2000000 in
theorem derives_any (kv : Value) (key : List UInt8) (s : ByteArray) (n : Int) (hn0 : -9223372036854775808 ≤ n) (hn1 : n ≤ 9223372036854775807) (hs : s.size ≤ maxLen) (w : World) (hK : Bs w kv key) :
    Calls Try.prog 14 #[kv, .string s, .int .i64 n] w fun e w' => e = .returned (.bool true) ∧ Ext w w' := by
  obtain ⟨Ak, capk, rfl, hcapk, hcmk, _, _⟩ := hK.is
  unfold maxLen at hcmk hs
  have HK := Lib.hid hK
  clear hK
  by_cases h1 : 200 < key.length
  · skip
    go_enter Try.func14, Try.ntmps14
    go_wp2_with (go_at_call 45; go_must (refine (known3_any _).mono ?_; rintro e w2 ⟨rfl, hx2⟩; have HX2 := Lib.hid hx2; clear hx2))
    go_ret
    exact ⟨rfl, HX2.out⟩
  by_cases h2 : 100 < s.size
  · skip
    go_enter Try.func14, Try.ntmps14
    go_wp2_with (go_at_call 45; go_must (refine (known3_any _).mono ?_; rintro e w2 ⟨rfl, hx2⟩; have HX2 := Lib.hid hx2; clear hx2))
    go_ret
    exact ⟨rfl, HX2.out⟩
  obtain ⟨lab, hlab⟩ : ∃ lab, s.data.toList = lab := ⟨_, rfl⟩
  have hll : lab.length ≤ 100 := by rw [← hlab, Array.length_toList]; have e : s.data.size = s.size := rfl; omega
  have HLAB := Lib.hid hlab
  clear hlab
  by_cases h34 : 400 < n ∧ n < 1000
  · obtain ⟨h3, h4⟩ := h34
    go_enter Try.func14, Try.ntmps14
    go_wp2_with (go_at_call 45; go_must (refine (known3_any _).mono ?_; rintro e w2 ⟨rfl, hx2⟩; have HX2 := Lib.hid hx2; clear hx2))
    go_ret
    exact ⟨rfl, HX2.out⟩
  by_cases h3 : 1000 ≤ n
  · have h4 : ¬ n < 1000 := by omega
    have h40 : 400 < n := by omega
    clear h34
    obtain ⟨L, hL⟩ : ∃ L, drv key lab (dN n) = L := ⟨_, rfl⟩
    obtain ⟨L6, hL6⟩ : ∃ L, drv key lab (dN 64) = L := ⟨_, rfl⟩
    have hd : 64 ≤ dN n := by unfold dN; rw [if_neg (by omega)]; split <;> omega
    have hT : L.take 64 = L6 := by rw [← hL, ← hL6, drv_take _ _ _ _ hd]; rfl
    have hlen : L.length = dN n := by rw [← hL]; exact drv_length _ _ _
    have hl64 : 64 ≤ L.length := by omega
    have HT : Hid (decide (L.take 64 = L6) = true) := Lib.hid (by simp [hT])
    have HL := Lib.hid hL
    have HL6 := Lib.hid hL6
    have T0 : True := trivial
    by_cases h5 : 1024 < n
    · have hlen2 : L.length = 1024 := by rw [hlen]; unfold dN; rw [if_neg (by omega), if_neg (by omega)]
      have HLEN := Lib.hid hlen2
      clear hL hL6 hd hT hlen hlen2
      go_enter Try.func14, Try.ntmps14
      go_wp2_with (first | (go_at_call 52; clear T0; go_must (refine (derive_any L n _ key lab s _ HL HK.out (by omega) HLAB (by omega)).mono ?_; rintro e w1 ⟨v1, rfl, hb1, hx1⟩; obtain ⟨A1, cap1, rfl, hcap1, hcm1, _, _⟩ := hb1.is; have HB1 := Lib.hid hb1; rw [HLEN.out] at hcap1 HB1; rw [HLEN.out]; have HX1 := Lib.hid hx1; have T1 : True := trivial; clear hb1 hx1)) | (go_at_call 52; clear T1; go_must (refine (derive_any L6 64 _ key lab s _ HL6 (Rd.ext HK.out HX1.out) (by omega) HLAB (by omega)).mono ?_; rintro e w2 ⟨v2, rfl, hb2, hx2⟩; have HB2 := Lib.hid hb2; have HX2 := Lib.hid (HX1.out.trans hx2); have HB12 := Lib.hid (Bs.pre (Rd.ext HB1.out hx2) 64 hl64); clear hb2 hx2)) | (go_at_call 49; go_must (refine (same_true _ _ (L.take 64) L6 _ HB12.out HB2.out HT).mono ?_; rintro e w3 ⟨rfl, rfl⟩)) | (go_at_call 45; go_must (refine (known3_any _).mono ?_; rintro e w4 ⟨rfl, hx4⟩; have HX4 := Lib.hid (HX2.out.trans hx4); clear hx4)))
      go_ret
      exact ⟨rfl, HX4.out⟩
    · obtain ⟨N, rfl⟩ : ∃ N : Nat, n = (N : Int) := ⟨n.toNat, by omega⟩
      have hlen2 : L.length = N := by rw [hlen]; unfold dN; rw [if_neg (by omega), if_pos (by omega)]; omega
      have HLEN := Lib.hid hlen2
      clear hL hL6 hd hT hlen hlen2
      go_enter Try.func14, Try.ntmps14
      go_wp2_with (first | (go_at_call 52; clear T0; go_must (refine (derive_any L N _ key lab s _ HL HK.out (by omega) HLAB (by omega)).mono ?_; rintro e w1 ⟨v1, rfl, hb1, hx1⟩; obtain ⟨A1, cap1, rfl, hcap1, hcm1, _, _⟩ := hb1.is; have HB1 := Lib.hid hb1; rw [HLEN.out] at hcap1 HB1; rw [HLEN.out]; have HX1 := Lib.hid hx1; have T1 : True := trivial; clear hb1 hx1)) | (go_at_call 52; clear T1; go_must (refine (derive_any L6 64 _ key lab s _ HL6 (Rd.ext HK.out HX1.out) (by omega) HLAB (by omega)).mono ?_; rintro e w2 ⟨v2, rfl, hb2, hx2⟩; have HB2 := Lib.hid hb2; have HX2 := Lib.hid (HX1.out.trans hx2); have HB12 := Lib.hid (Bs.pre (Rd.ext HB1.out hx2) 64 hl64); clear hb2 hx2)) | (go_at_call 49; go_must (refine (same_true _ _ (L.take 64) L6 _ HB12.out HB2.out HT).mono ?_; rintro e w3 ⟨rfl, rfl⟩)) | (go_at_call 45; go_must (refine (known3_any _).mono ?_; rintro e w4 ⟨rfl, hx4⟩; have HX4 := Lib.hid (HX2.out.trans hx4); clear hx4)))
      go_ret
      exact ⟨rfl, HX4.out⟩
  · obtain ⟨L, hL⟩ : ∃ L, drv key lab (dN n) = L := ⟨_, rfl⟩
    have hn4 : ¬ 400 < n := by omega
    have HL := Lib.hid hL
    clear hL h34
    go_enter Try.func14, Try.ntmps14
    go_wp2_with (first | (go_at_call 52; go_must (refine (derive_any L n _ key lab s _ HL HK.out (by omega) HLAB (by omega)).mono ?_; rintro e w1 ⟨v1, rfl, hb1, hx1⟩; have HB1 := Lib.hid hb1; have HX1 := Lib.hid hx1; clear hb1 hx1)) | (go_at_call 53; go_must (refine (rderive_any L n _ key lab s _ HL (Rd.ext HK.out HX1.out) (by omega) HLAB (by omega)).mono ?_; rintro e w2 ⟨v2, rfl, hb2, hx2⟩; have HB2 := Lib.hid hb2; have HX2 := Lib.hid (HX1.out.trans hx2); have HB12 := Lib.hid (Rd.ext HB1.out hx2); clear hb2 hx2)) | (go_at_call 49; go_must (refine (same_true _ _ L L _ HB12.out HB2.out (Lib.hid (by simp))).mono ?_; rintro e w3 ⟨rfl, rfl⟩)) | (go_at_call 45; go_must (refine (known3_any _).mono ?_; rintro e w4 ⟨rfl, hx4⟩; have HX4 := Lib.hid (HX2.out.trans hx4); clear hx4)))
    go_ret
    exact ⟨rfl, HX4.out⟩
end Go.Proofs.Ytapojpjmeadabaa
end

section
/- sacristanlaw03.MacBegins. -/
namespace Go.Proofs.Ytapojpjmeadabaa
open Go.RowKit
set_option linter.unusedVariables false
set_option linter.unusedSimpArgs false
attribute [local go_sem] lt_ext cell?_ext frozen?_ext shape?_ext

theorem dN_nat (a : Nat) (h : a ≤ 1024) : dN (a : Int) = a := by
  unfold dN
  by_cases h0 : (a : Int) ≤ 0
  · rw [if_pos h0]; omega
  · rw [if_neg h0, if_pos (by omega)]; omega
set_option maxRecDepth 100000 in
set_option maxHeartbeats 2000000 in
theorem begins_of (kv : Value) (key : List UInt8) (s : ByteArray) (a b : Nat) (ha : a < 256) (hb : b < 256) (hs : s.size ≤ maxLen) (w : World) (hK : Bs w kv key) :
    Calls Try.prog 15 #[kv, .string s, .int .u8 (a : Int), .int .u8 (b : Int)] w fun e w' => e = .returned (.bool true) ∧ Ext w w' := by
  obtain ⟨Ak, capk, rfl, hcapk, hcmk, _, _⟩ := hK.is
  unfold maxLen at hcmk hs
  have HK := Lib.hid hK
  clear hK
  by_cases h1 : 200 < key.length
  · skip
    go_enter Try.func15, Try.ntmps15
    go_wp2_with (go_at_call 45; go_must (refine (known3_any _).mono ?_; rintro e w2 ⟨rfl, hx2⟩; have HX2 := Lib.hid hx2; clear hx2))
    go_ret
    exact ⟨rfl, HX2.out⟩
  by_cases h2 : 100 < s.size
  · skip
    go_enter Try.func15, Try.ntmps15
    go_wp2_with (go_at_call 45; go_must (refine (known3_any _).mono ?_; rintro e w2 ⟨rfl, hx2⟩; have HX2 := Lib.hid hx2; clear hx2))
    go_ret
    exact ⟨rfl, HX2.out⟩
  obtain ⟨lab, hlab⟩ : ∃ lab, s.data.toList = lab := ⟨_, rfl⟩
  have hll : lab.length ≤ 100 := by rw [← hlab, Array.length_toList]; have e : s.data.size = s.size := rfl; omega
  have HLAB := Lib.hid hlab
  clear hlab
  obtain ⟨L, hL⟩ : ∃ L, drv key lab (dN (a : Int)) = L := ⟨_, rfl⟩
  obtain ⟨L2, hL2⟩ : ∃ L, drv key lab (dN ((a : Int) + (b : Int))) = L := ⟨_, rfl⟩
  have e2 : dN ((a : Int) + (b : Int)) = a + b := by rw [← Int.natCast_add]; exact dN_nat _ (by omega)
  have hl : L.length = a := by rw [← hL, drv_length]; exact dN_nat _ (by omega)
  have hl2 : L2.length = a + b := by rw [← hL2, drv_length]; exact e2
  have HT : Hid (decide (L2.take a = L) = true) := Lib.hid (by rw [← hL, ← hL2, e2, dN_nat a (by omega), drv_take _ _ _ _ (by omega)]; simp)
  have hle : a ≤ L2.length := by omega
  have HL := Lib.hid hL
  have HL2 := Lib.hid hL2
  have HLEN := Lib.hid hl
  have HLEN2 := Lib.hid hl2
  have T0 : True := trivial
  clear hL hL2 e2 hl hl2
  go_enter Try.func15, Try.ntmps15
  go_wp2_with (first | (go_at_call 52; clear T0; go_must (refine (derive_any L (a : Int) _ key lab s _ HL HK.out (by omega) HLAB (by omega)).mono ?_; rintro e w1 ⟨v1, rfl, hb1, hx1⟩; obtain ⟨A1, cap1, rfl, hcap1, hcm1, _, _⟩ := hb1.is; have HB1 := Lib.hid hb1; rw [HLEN.out] at hcap1 HB1; rw [HLEN.out]; have HX1 := Lib.hid hx1; have T1 : True := trivial; clear hb1 hx1)) | (go_at_call 52; clear T1; go_must (refine (derive_any L2 ((a : Int) + (b : Int)) _ key lab s _ HL2 (Rd.ext HK.out HX1.out) (by omega) HLAB (by omega)).mono ?_; rintro e w2 ⟨v2, rfl, hb2, hx2⟩; obtain ⟨A2, cap2, rfl, hcap2, hcm2, _, _⟩ := hb2.is; have HB2 := Lib.hid hb2; rw [HLEN2.out] at hcap2 HB2; rw [HLEN2.out]; have HX2 := Lib.hid (HX1.out.trans hx2); have HB12 := Lib.hid (Rd.ext HB1.out hx2); have HP := Lib.hid (Bs.pre HB2.out a hle); clear hb2 hx2)) | (go_at_call 49; go_must (refine (same_true _ _ (L2.take a) L _ HP.out HB12.out HT).mono ?_; rintro e w3 ⟨rfl, rfl⟩)) | (go_at_call 45; go_must (refine (known3_any _).mono ?_; rintro e w4 ⟨rfl, hx4⟩; have HX4 := Lib.hid (HX2.out.trans hx4); clear hx4)))
  go_ret
  exact ⟨rfl, HX4.out⟩
theorem begins_any (kv : Value) (key : List UInt8) (s : ByteArray) (a b : UInt8) (hs : s.size ≤ maxLen) (w : World) (hK : Bs w kv key) :
    Calls Try.prog 15 #[kv, .string s, B8 a, B8 b] w fun e w' => e = .returned (.bool true) ∧ Ext w w' := begins_of kv key s a.toNat b.toNat a.toNat_lt b.toNat_lt hs w hK
end Go.Proofs.Ytapojpjmeadabaa
end

section
/- sacristanlaw03.MacParts. -/
namespace Go.Proofs.Ytapojpjmeadabaa
open Go.RowKit
set_option linter.unusedVariables false
set_option linter.unusedSimpArgs false
attribute [local go_sem] lt_ext cell?_ext frozen?_ext shape?_ext

theorem exec_bytes {o : Oper} {ρ : Operand → Value} (x : Operand) (ho : o.op = .convert 9 23 x) (s : ByteArray) (hx : ρ x = .string s) (l : List UInt8) (hl : s.data.toList = l) (h32 : l.length ≤ 4294967296) (w : World) :
    ∃ v w', (execOp ρ o).run Try.prog w = .ok (.value v) w' ∧ NewM w v l w' := by
  have hr := run_bytes_of_string (P := Try.prog) w 9 23 5 s Try.underlying9 Try.underlying23 Try.underlying5
  have hsz : s.size = l.length := by rw [← hl, Array.length_toList]; rfl
  have he : (execOp ρ o).run Try.prog w = .ok (.value (.slice (some ⟨w.heap.size, 0, none⟩) s.size (grownCap w s.size 0 5))) (w.drew.alloc (.cells (bytesRow s (grownCap w s.size 0 5)) 5 ((bytesRow s (grownCap w s.size 0 5)).size, (bytesRow s (grownCap w s.size 0 5)).size + 1))) := by
    unfold execOp
    simp only [ho, hx, Sem.run_bind, hr, Result.andThen_ok, Sem.run_pure]
  refine ⟨_, _, he, ⟨w.heap.size, grownCap w s.size 0 5, bytesRow s (grownCap w s.size 0 5), _, by rw [hsz], heap_alloc_new w.drew _, ?_, ?_, ?_, ?_, .inr ?_⟩, ⟨rfl, rfl, rfl, by simp, fun k hk => heap_alloc_old w.drew _ hk⟩, fun g hg => by injection hg with e; subst e; exact Nat.le_refl _⟩
  · rw [← hsz]; exact grownCap_ge w s.size 0 5
  · exact grownCap_le_maxLen w s.size 0 5 (by unfold maxLen; omega)
  · have := grownCap_ge w s.size 0 5
    have h2 : s.data.size = s.size := rfl
    simp only [bytesRow, Array.size_append, Array.size_map, Array.size_replicate]
    omega
  · have h2 : s.data.size = s.size := rfl
    simp only [bytesRow, Array.toList_append, Array.toList_map, hl]
    exact List.take_left' (by simp)
  · have := grownCap_ge w s.size 0 5
    have h2 : s.data.size = s.size := rfl
    simp only [bytesRow, Array.size_append, Array.size_map, Array.size_replicate]
    omega
theorem wpl_bytes_g {ops : Array Oper} {rest : List Oper} {o : Oper} {a : Act} {w : World} {Q : Exit → Act → World → Prop} (hw : Region.wanted o (yielded ops a.tmps) = true) (x : Operand) (ho : o.op = .convert 9 23 x)
    (s : ByteArray) (hx : a.eval x = .string s) (l : List UInt8) (hl : s.data.toList = l) (h32 : l.length ≤ 4294967296)
    (h : ∀ v w', NewM w v l w' → wpList Try.prog ops Q rest (a.put o.dst v) w') : wpList Try.prog ops Q (o :: rest) a w := by
  obtain ⟨v, w', hr, hn⟩ := exec_bytes (ρ := a.eval) x ho s hx l hl h32 w
  exact wpl_vw hw v w' hr (h v w' hn)
theorem check_two (D M tag : List UInt8) (l l' : List UInt8) (u u' kv tv : Value) (key : List UInt8) (w : World) (g : Nat) (hg : g = w.heap.size) (b : Bool) (hM : Hid (l ++ l' = M)) (hD : Hid (Sha.tag key M = D)) (hb : Hid (decide (D = tag) = b)) (hK : Bs w kv key) (hT : Bs w tv tag) (h : Bs w u l) (h' : Bs w u' l') (hk : key.length ≤ 2147483648) (hf : M.length ≤ 1073741824) :
    Calls Try.prog 48 #[kv, tv, .slice (some ⟨g, 0, none⟩) 2 2] (w.alloc (.cells #[u, u'] 23)) fun e w' => e = .returned (.bool b) ∧ Ext w w' := by
  subst hg
  have h1 := check_any M kv tv _ key tag [u, u'] [l, l'] _ (Rd.ext hK ((Ext.refl w).alloc _)) (Rd.ext hT ((Ext.refl w).alloc _)) (Rss.two w u u' l l' h h') hk (Lib.hid (by rw [← hM.out]; simp)) hf
  rw [hD.out, hb.out] at h1
  exact h1.mono fun e w' ⟨he, hx⟩ => ⟨he, ((Ext.refl w).alloc _).trans hx⟩
theorem check_none (kv : Value) (key : List UInt8) (w : World) (hK : Bs w kv key) (hk : key.length ≤ 2147483648) :
    Calls Try.prog 48 #[kv, .slice none 0 0, .slice none 0 0] w fun e w' => e = .returned (.bool false) ∧ Ext w w' := by
  have h1 := check_any [] kv _ _ key [] [] [] w hK (Rd.nil w 1) (Rss.none w) hk (Lib.hid rfl) (by decide)
  have e : decide (Sha.tag key [] = []) = false := by
    simp only [decide_eq_false_iff_not]
    intro h
    have := congrArg List.length h
    rw [Sha.tag_length] at this
    cases this
  rw [e] at h1
  exact h1
theorem be_small (k : Nat) (hk : k < 256) : be k 4 = [0, 0, 0, UInt8.ofNat k] := by
  simp only [be]
  have e1 : k / 256 ^ 3 = 0 := Nat.div_eq_of_lt (by omega)
  have e2 : k / 256 ^ 2 = 0 := Nat.div_eq_of_lt (by omega)
  have e3 : k / 256 ^ 1 = 0 := Nat.div_eq_of_lt (by omega)
  rw [e1, e2, e3, Nat.pow_zero, Nat.div_one]
  rfl
theorem Bs.from {w : World} {b o n cap : Nat} {l : List UInt8} (h : Bs w (.slice (some ⟨b, o, none⟩) n cap) l) (m k : Nat) (hn : n = l.length) (hk : m + k = n) (hk0 : 0 < k) : Bs w (.slice (some ⟨b, o + m, none⟩) k (cap - m)) (l.drop m) := by
  subst hn
  obtain ⟨A', cap', hv, h1, h2, h3, h4⟩ := h.is
  injection hv with e1 e2 e3
  subst e3
  obtain ⟨b', o', ha, hb, hc⟩ := h4 (by omega)
  rw [← e1] at ha
  injection ha with ha
  injection ha with ha1 ha2
  subst ha1; subst ha2
  have hl : (l.drop m).length = k := by simp; omega
  unfold Bs
  rw [hl]
  refine Rd.lit (by simp; omega) (by omega) (by omega) hb fun j u hj => ?_
  rw [List.map_drop, List.getElem?_drop] at hj
  have := hc (m + j) u hj
  rw [show o + m + j = o + (m + j) by omega]
  exact this
theorem four_bytes (w : World) (k : Nat) (hk : k < 256) (x : Int) (hx : x = (k : Int)) : Bs (w.alloc (.cells #[.int .u8 0, .int .u8 0, .int .u8 0, .int .u8 x] 5)) (.slice (some ⟨w.heap.size, 0, none⟩) 4 4) (be k 4) := by
  have h := Bs.lit_new w #[.int .u8 0, .int .u8 0, .int .u8 0, .int .u8 x] (be k 4) (by
    rw [be_small k hk, hx]
    have e : i8 (UInt8.ofNat k) = (k : Int) := by simp [i8]; omega
    simp only [List.map_cons, List.map_nil, B8, e]
    rfl) (by rw [be_length]; decide)
  rw [be_length] at h
  exact h
set_option maxRecDepth 100000 in
set_option maxHeartbeats 3000000 in
theorem parts_of (kv : Value) (key : List UInt8) (s : ByteArray) (n : Nat) (hn : n < 256) (hs : s.size ≤ maxLen) (w : World) (hK : Bs w kv key) :
    Calls Try.prog 16 #[kv, .string s, .int .u8 (n : Int)] w fun e w' => e = .returned (.bool true) ∧ Ext w w' := by
  obtain ⟨Ak, capk, rfl, hcapk, hcmk, _, _⟩ := hK.is
  unfold maxLen at hcmk hs
  have HK := Lib.hid hK
  clear hK
  by_cases h1 : 100 < key.length
  · skip
    go_enter Try.func16, Try.ntmps16
    go_wp2_with (go_at_call 45; go_must (refine (known3_any _).mono ?_; rintro e w2 ⟨rfl, hx2⟩; have HX2 := Lib.hid hx2; clear hx2))
    go_ret
    exact ⟨rfl, HX2.out⟩
  by_cases h2 : 60 < s.size
  · skip
    go_enter Try.func16, Try.ntmps16
    go_wp2_with (go_at_call 45; go_must (refine (known3_any _).mono ?_; rintro e w2 ⟨rfl, hx2⟩; have HX2 := Lib.hid hx2; clear hx2))
    go_ret
    exact ⟨rfl, HX2.out⟩
  obtain ⟨lab, hlab⟩ : ∃ lab, s.data.toList = lab := ⟨_, rfl⟩
  have hll : lab.length ≤ 100 := by rw [← hlab, Array.length_toList]; have e : s.data.size = s.size := rfl; omega
  have HLAB := Lib.hid hlab
  clear hlab
  obtain ⟨k, hk, hk0, hk1⟩ : ∃ k : Nat, 1 + (n : Int) % 5 = (k : Int) ∧ 1 ≤ k ∧ k ≤ 5 := ⟨1 + n % 5, by omega, by omega, by omega⟩
  obtain ⟨K, hKm, hKk⟩ : ∃ K : Nat, 32 * (k : Int) = (K : Int) ∧ K = 32 * k := ⟨32 * k, by omega, rfl⟩
  obtain ⟨m, hm, hmk⟩ : ∃ m : Nat, (K : Int) - 32 = (m : Int) ∧ m + 32 = K := ⟨32 * k - 32, by omega, by omega⟩
  obtain ⟨L, hL⟩ : ∃ L, drv key lab (dN (K : Int)) = L := ⟨_, rfl⟩
  have hLs : L = strm key lab k := by
    rw [← hL, dN_nat K (by omega), hKk, ← strm_take key lab (32 * k) k (Nat.le_refl _)]
    exact List.take_of_length_le (by rw [strm_length]; exact Nat.le_refl _)
  have hLl : L.length = K := by rw [hLs, strm_length, hKk]
  have hSk : strm key lab k = strm key lab (k - 1) ++ Sha.tag key (lab ++ be k 4) := by
    obtain ⟨k0, rfl⟩ : ∃ k0, k = k0 + 1 := ⟨k - 1, by omega⟩
    rfl
  obtain ⟨M, hM⟩ : ∃ M, lab ++ be k 4 = M := ⟨_, rfl⟩
  obtain ⟨D, hD⟩ : ∃ D, Sha.tag key M = D := ⟨_, rfl⟩
  have HEND : Hid (decide (L.drop m = D) = true) := Lib.hid (by
    rw [hLs, hSk, hM, hD, List.drop_append_of_le_length (by rw [strm_length]; omega), List.drop_of_length_le (by rw [strm_length]; omega)]
    simp)
  obtain ⟨M1, hM1⟩ : ∃ M, lab ++ be 1 4 = M := ⟨_, rfl⟩
  obtain ⟨D1, hD1⟩ : ∃ D, Sha.tag key M1 = D := ⟨_, rfl⟩
  have hD1l : D1.length = 32 := by rw [← hD1]; exact Sha.tag_length _ _
  have HFST : Hid (decide (D1 = L.take 32) = true) := Lib.hid (by
    have h := strm_pre key lab 1 k (by omega)
    rw [← hLs] at h
    rw [show 32 * 1 = 32 from rfl] at h
    rw [h, strm, strm, List.nil_append, Nat.zero_add, hM1, hD1]
    simp)
  have HNE : Hid (decide (D1 = L.take 31) = false) := Lib.hid (by
    simp only [decide_eq_false_iff_not]
    intro e
    have := congrArg List.length e
    rw [hD1l, List.length_take] at this
    omega)
  have HDl : Hid (D.length = 32) := Lib.hid (by rw [← hD]; exact Sha.tag_length _ _)
  have hMl : M.length ≤ 104 := by rw [← hM, List.length_append, be_length]; omega
  have hM1l : M1.length ≤ 104 := by rw [← hM1, List.length_append, be_length]; omega
  have HBE : Hid (be k 4 = [0, 0, 0, UInt8.ofNat k]) := Lib.hid (be_small _ (by omega))
  have HL := Lib.hid hL
  have HLl := Lib.hid hLl
  have HM := Lib.hid hM
  have HD := Lib.hid hD
  have HM1 := Lib.hid hM1
  have HD1 := Lib.hid hD1
  have hK32 : 32 ≤ K := by omega
  have hK160 : K ≤ 160 := by omega
  have hL32 : 32 ≤ L.length := by omega
  have hmL : m ≤ L.length := by omega
  have T0 : True := trivial
  clear hL hLs hLl hM hD hM1 hD1 hD1l hSk hKk
  go_enter Try.func16, Try.ntmps16
  go_wp2_with (first | (go_at_call 52; go_must (refine (derive_any L (K : Int) _ key lab s _ HL HK.out (by omega) HLAB (by omega)).mono ?_; rintro e w1 ⟨v1, rfl, hb1, hx1⟩; obtain ⟨b1, o1, cap1, rfl, hcap1, hcm1, hbl1, _⟩ := hb1.pos (by omega); have HB1 := Lib.hid hb1; rw [HLl.out] at hcap1 HB1; rw [HLl.out]; have HX1 := Lib.hid hx1; clear hb1 hx1)) | (refine wpl_bytes rfl (.tmp 29) rfl s rfl lab HLAB.out (by omega) ?_; intro va wa hna; obtain ⟨A2, cap2, rfl, _, _, _, _⟩ := hna.bs.is; have HNA := Lib.hid hna; clear hna) | (go_at_call 47; go_must (refine (tag_two D M lab (be k 4) _ _ _ key _ _ (by simp) HM HD (Rd.ext HK.out ((HX1.out.trans HNA.out.ext).alloc _)) (Rd.ext HNA.out.bs ((Ext.refl wa).alloc _)) (four_bytes wa k (by omega) _ rfl) (by omega) (by omega)).mono ?_; rintro e w2 ⟨rfl, hx2⟩; have hx12 := (HNA.out.ext.alloc _).trans hx2; have HX2 := Lib.hid (HX1.out.trans hx12); have HB2 := Lib.hid (Rd.ext HB1.out hx12); have hbl2 : b1 < w2.heap.size := Nat.lt_of_lt_of_le hbl1 hx12.size; clear hx2 hx12)) | (refine wpl_alloc_agg rfl 27 rfl _ zero27.1 ?_) | (refine wpl_store27 rfl _ _ rfl w2.heap.size D (Sha.zeros 32) rfl rfl HDl.out (by simp [Sha.zeros]) (heap_alloc_last w2 _) ?_; intro w3 h3 hu3; have hx3 : Ext w2 w3 := ((Ext.refl w2).alloc _).upd_new hu3 (Nat.le_refl _); have H3 : Hid (Blk w3 w2.heap.size 27 D) := Lib.hid h3; have HX3 := Lib.hid (HX2.out.trans hx3); have HB3 := Lib.hid (Rd.ext HB2.out hx3); clear h3 hu3 hx3))
  have HEP : Hid (∀ w', Ext w3 w' → Bs w' (.slice (some ⟨b1, o1 + m, none⟩) (K - m) (cap1 - m)) (L.drop m)) := Lib.hid (fun w' hx' => Bs.from (Rd.ext HB3.out hx') m (K - m) HLl.out.symm (by omega) (by omega))
  refine wp_region_m (by kernel_rfl) (by kernel_rfl) ?_; try simp only [Act.put, List.setIfInBounds_toArray, List.set_cons_succ, List.set_cons_zero]
  repeat (refine gq rfl rfl rfl rfl (fun K hK => ?_); go_big_quiet_op; refine hK _ ?_; clear hK K)
  refine gx rfl rfl rfl rfl _ (fun x => exec_load27 _ rfl w2.heap.size rfl D HDl.out _ (Blk.ext H3.out (ext_ext w3 x))) ?_
  simp only [Act.put, List.setIfInBounds_toArray, List.set_cons_succ, List.set_cons_zero]
  refine gcp rfl rfl rfl rfl 50 #[Dig D] (fun _ => by go_simp) 48 rfl (BsR D) BsR.ext (fun x => (slice_any D HDl.out _).mono (fun e w' ⟨v, he, hn⟩ => ⟨v, he, hn.bs, hn.ext⟩)) ?_
  simp only [Act.put, List.setIfInBounds_toArray, List.set_cons_succ, List.set_cons_zero]
  refine gcx rfl rfl 49 (fun xs => #[.slice (some ⟨b1, o1 + m, none⟩) (K - m) (cap1 - m), xs 48]) (.bool true) (fun xs => rfl) (fun xs w => by simp only [fillM, Act.put, List.setIfInBounds_toArray, List.set_cons_succ, List.set_cons_zero]; go_simp) (fun xs x hk => (same_true _ _ (L.drop m) D _ (HEP.out _ (ext_ext w3 x)) (hk 48 (by decide) (by simp) _ rfl) HEND).mono (fun e w' ⟨he, hw⟩ => ⟨he, by rw [← hw]; exact Ext.refl _⟩)) ?_
  simp only [Act.put, List.setIfInBounds_toArray, List.set_cons_succ, List.set_cons_zero]
  repeat (refine gq rfl rfl rfl rfl (fun K hK => ?_); go_big_quiet_op; refine hK _ ?_; clear hK K)
  refine gm_end_at rfl [(48, BsR D)] rfl (fun xs x hk => ?_)
  clear hk
  simp only [fillM, Act.put, List.setIfInBounds_toArray, List.set_cons_succ, List.set_cons_zero]
  have HX4 := Lib.hid (HX3.out.trans (ext_ext w3 x))
  have HB4 := Lib.hid (Rd.ext HB3.out (ext_ext w3 x))
  have hbl4 : b1 < (w3.ext x).heap.size := Nat.lt_of_lt_of_le hbl2 (Nat.le_trans (by have := H3.out.lt; omega) (ext_ext w3 x).size)
  have HP32 := Lib.hid (Bs.pre HB4.out 32 (by omega))
  have HP31 := Lib.hid (Bs.pre HB4.out 31 (by omega))
  generalize xs 48 = v48
  generalize w3.ext x = w4 at *
  clear HEP HB1 HB2 HB3 H3 HX1 HX2 HX3 HNA hbl1 hbl2
  have T1 : True := trivial
  have T2 : True := trivial
  go_wp2_with (first | (refine wpl_bytes rfl (.tmp 55) rfl s rfl lab HLAB.out (by omega) ?_; intro vb wb hnb; obtain ⟨A5, cap5, rfl, _, _, _, _⟩ := hnb.bs.is; have HNB := Lib.hid hnb; clear hnb) | (go_at_call 48; clear T1; go_must (refine (check_two D1 M1 (L.take 32) lab (be 1 4) _ _ _ _ key _ _ (by simp) true HM1 HD1 HFST (Rd.ext HK.out ((HX4.out.trans HNB.out.ext).alloc _)) (Rd.ext HP32.out (HNB.out.ext.alloc _)) (Rd.ext HNB.out.bs ((Ext.refl wb).alloc _)) (four_bytes wb 1 (by omega) _ rfl) (by omega) (by omega)).mono ?_; rintro e w5 ⟨rfl, hx5⟩; have hx45 := (HNB.out.ext.alloc _).trans hx5; have HX5 := Lib.hid (HX4.out.trans hx45); have HP5 := Lib.hid (Rd.ext HP31.out hx45); clear hx5 hx45)) | (refine wpl_bytes_g rfl (.tmp 64) rfl s rfl lab HLAB.out (by omega) ?_; intro vc wc hnc; obtain ⟨A6, cap6, rfl, _, _, _, _⟩ := hnc.bs.is; have HNC := Lib.hid hnc; clear hnc) | (go_at_call 48; clear T2; go_must (refine (check_two D1 M1 (L.take 31) lab (be 1 4) _ _ _ _ key _ _ (by simp) false HM1 HD1 HNE (Rd.ext HK.out ((HX5.out.trans HNC.out.ext).alloc _)) (Rd.ext HP5.out (HNC.out.ext.alloc _)) (Rd.ext HNC.out.bs ((Ext.refl wc).alloc _)) (four_bytes wc 1 (by omega) _ rfl) (by omega) (by omega)).mono ?_; rintro e w6 ⟨rfl, hx6⟩; have hx56 := (HNC.out.ext.alloc _).trans hx6; have HX6 := Lib.hid (HX5.out.trans hx56); clear hx6 hx56)) | (go_at_call 48; go_must (refine (check_none _ key _ (Rd.ext HK.out HX6.out) (by omega)).mono ?_; rintro e w7 ⟨rfl, hx7⟩; have HX7 := Lib.hid (HX6.out.trans hx7); clear hx7)) | (go_at_call 45; go_must (refine (known3_any _).mono ?_; rintro e w8 ⟨rfl, hx8⟩; have HX8 := Lib.hid (HX7.out.trans hx8); clear hx8)))
  go_ret
  exact ⟨rfl, HX8.out⟩
theorem parts_any (kv : Value) (key : List UInt8) (s : ByteArray) (n : UInt8) (hs : s.size ≤ maxLen) (w : World) (hK : Bs w kv key) :
    Calls Try.prog 16 #[kv, .string s, B8 n] w fun e w' => e = .returned (.bool true) ∧ Ext w w' := parts_of kv key s n.toNat n.toNat_lt hs w hK
end Go.Proofs.Ytapojpjmeadabaa
end

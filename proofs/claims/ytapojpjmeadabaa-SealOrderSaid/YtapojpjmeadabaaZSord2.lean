/- Sord2, Law9: several texts in one. -/
import Derived.Test.YtapojpjmeadabaaZSorp
import Derived.Test.YtapojpjmeadabaaZLaw8
section
/- sacristanlaw08.SealOrder. -/
namespace Go.Proofs.Ytapojpjmeadabaa
open Go.RowKit
set_option linter.unusedVariables false
set_option linter.unusedSimpArgs false
attribute [local go_sem] lt_ext cell?_ext frozen?_ext shape?_ext

set_option maxRecDepth 100000 in
set_option maxHeartbeats 8000000 in
theorem sord_good (num N : Nat) (sl : List UInt8) (su : List (List UInt8)) (sv gv : Value)
    (kv lv ov : Value) (key l o : List UInt8) (x : Se) (ct : Nat) (hct : ct < 256) (w : World) (hK : Bs w kv key) (hL : Bs w lv l) (hO : Bs w ov o) (hx : SeR w x) (hx1 : x.sl.length ≤ 140737488355328) (hx2 : x.su.length ≤ 4398046511104)
    (hxe : x = ⟨num, N, sl, su, sv, gv⟩) (hk : key.length ≤ 100) (hn : x.sl.length + 32 * x.su.length ≤ 500) (hr : rightB x.blk x.sl x.su = true) (hm : l.length ≤ 8) (ho : o.length ≤ 15)
 : Calls Try.prog 25 #[kv, x.v, lv, .int .u8 (ct : Int), ov] w fun e w' => e = .returned (.bool true) ∧ Ext w w' := by
  subst hxe
  obtain ⟨N', hN', hNb, hsl, hsu⟩ := right_bounds hr
  obtain rfl : N = N' := by
    have e : (N : Int) = (N' : Int) := hN'
    omega
  have h1k : sl.length ≤ 500 := by have e : sl.length + 32 * su.length ≤ 500 := hn; omega
  have h2k : su.length ≤ 500 := by have e : sl.length + 32 * su.length ≤ 500 := hn; omega
  have hnum : num ≤ 18446744073709551615 := hx.num
  have hr' : rightB (N : Int) sl su = true := hr
  have h32 : ∀ d ∈ su, d.length = 32 := hx.su.all
  obtain ⟨E, hE⟩ : ∃ E : Nat → List UInt8, ∀ m, encS key m N sl su = E m := ⟨_, fun _ => rfl⟩
  have hE1 : ∀ m, m ≤ 18446744073709551615 → good key (E m) = true ∧ fnum (E m) = m := fun m hmm => by
    obtain ⟨a1, a2, a3, a4, a5⟩ := good_enc key m N hmm sl su h32 hr'
    rw [hE m] at a1 a3
    exact ⟨a1, a3⟩
  have hMK : ∀ m s t, m ≤ 18446744073709551615 → mkSe (E m) s t = (⟨m, (N : Int), sl, su, s, t⟩ : Se) := fun m s t hmm => by
    obtain ⟨a1, a2, a3, a4, a5⟩ := good_enc key m N hmm sl su h32 hr'
    rw [hE m] at a1 a2 a3 a4 a5
    unfold mkSe
    rw [a2, a3, a4, a5]
  have hEl : ∀ m, (E m).length ≤ 1073741824 := fun m => by rw [← hE m, encS_length key m N sl su hsl hsu h32]; omega
  have hsm : ∀ ls, ls = encA E l ∨ ls = encB E o l → ∀ b ∈ ls, b.length ≤ 1073741824 := fun ls hls b hb => by
    rcases hls with rfl | rfl
    · obtain ⟨y, _, rfl⟩ := List.mem_map.1 hb
      exact hEl _
    · obtain ⟨y, _, hy⟩ := List.mem_flatMap.1 hb
      simp only [List.mem_cons, List.not_mem_nil, or_false] at hy
      rcases hy with rfl | rfl
      · omega
      · exact hEl _
  have ENC : Hid (∀ n, n ≤ 18446744073709551615 → ∀ w', Ext w w' → Calls Try.prog 64 #[kv, .agg (seRow ⟨n, (N : Int), sl, su, sv, gv⟩)] w' fun e w'' => ∃ v, e = .returned (.tuple #[v, .int .i64 0]) ∧ NewB w' v (E n) w'') := Lib.hid (fun n hnn w' h => by
    have := encode_any kv ⟨n, (N : Int), sl, su, sv, gv⟩ key w' (Rd.ext hK h) (by omega) ⟨(hx.ext h).sl, (hx.ext h).su, hnn, hx.lo, hx.hi⟩ hr'
    rw [show encS key (⟨n, (N : Int), sl, su, sv, gv⟩ : Se).num (⟨n, (N : Int), sl, su, sv, gv⟩ : Se).blk.toNat (⟨n, (N : Int), sl, su, sv, gv⟩ : Se).sl (⟨n, (N : Int), sl, su, sv, gv⟩ : Se).su = E n from hE n] at this
    exact this)
  have HE1 := Lib.hid hE1
  have HMK := Lib.hid hMK
  have HSM := Lib.hid hsm
  have HOG := Lib.hid (good_few key o (by omega))
  clear hE hE1 hMK hEl hsm h32 hr' hsl hsu hN'
  obtain ⟨x, hxe⟩ : ∃ x : Se, (⟨num, (N : Int), sl, su, sv, gv⟩ : Se) = x := ⟨_, rfl⟩
  have hn' : sl.length + 32 * su.length ≤ 500 := hn
  clear hn
  rw [hxe] at hx hx1 hx2 hr
  have hn : x.sl.length + 32 * x.su.length ≤ 500 := by rw [← hxe]; exact hn'
  have HXE := Lib.hid hxe
  clear hn'
  rw [show Calls Try.prog 25 #[kv, (⟨num, (N : Int), sl, su, sv, gv⟩ : Se).v, lv, .int .u8 (ct : Int), ov] = Calls Try.prog 25 #[kv, x.v, lv, .int .u8 (ct : Int), ov] by rw [hxe]]
  clear hxe
  obtain ⟨Ak, ck, rfl, _, _, _, _⟩ := hK.is
  obtain ⟨Al, cl, rfl, hcl1, hcl2, _, _⟩ := hL.is
  obtain ⟨Ao, co, rfl, hco1, hco2, _, _⟩ := hO.is
  unfold maxLen at hcl2 hco2
  obtain ⟨n1, hn1⟩ : ∃ n, x.sl.length + 32 * x.su.length = n := ⟨_, rfl⟩
  have hn1b : n1 ≤ 1407374883553280 := by omega
  have L1 : Hid (∀ w', Ext w w' → Calls Try.prog 61 #[.agg (seRow x)] w' fun e w'' => e = .returned (.int .i64 (n1 : Int)) ∧ Ext w' w'') := Lib.hid (fun w' h => by have := slong_any x w' (hx.ext h) (by omega) (by omega); rw [hn1] at this; exact this)
  have RA : Hid (∀ w', Ext w w' → Calls Try.prog 62 #[.agg (seRow x)] w' fun e w'' => e = .returned (.bool (rightB x.blk x.sl x.su)) ∧ Ext w' w'') := Lib.hid (fun w' h => rright_any x w' (hx.ext h) hx1)
  have HNA := Lib.hid hn1
  have HK := Lib.hid hK
  have HL := Lib.hid hL
  have HO := Lib.hid hO
  have HX := Lib.hid hx
  have hb6 : At68 (w.alloc (.cells #[.int .u64 (x.num : Int), .int .i64 x.blk, x.sv, x.gv] 68)) w.heap.size (seRow x) := heap_alloc_last w _
  have hx0 : Ext w (w.alloc (.cells #[.int .u64 (x.num : Int), .int .i64 x.blk, x.sv, x.gv] 68)) := (Ext.refl w).alloc _
  have HB6 := Lib.hid hb6
  have HX0 := Lib.hid hx0
  clear hx hn1 hb6 hx0 hK hL hO
  have HR := Lib.hid hr
  clear hr
  have HDK : Hid (decide (100 < (key.length : Int)) = false) := Lib.hid (decide_eq_false (by omega))
  have HD1 : Hid (decide (500 < (n1 : Int)) = false) := Lib.hid (decide_eq_false (by have := HNA.out; omega))
  have HD2 : Hid (decide (8 < (l.length : Int)) = false) := Lib.hid (decide_eq_false (by omega))
  have TX : True := trivial
  go_enter Try.func25, Try.ntmps25
  go_wp2_with (first | (refine wpl_v ?_ _ (exec_gtr (.tmp 24) 100 3 rfl (key.length : Int) rfl rfl _ HDK.out _) ?_; rfl) | (skip; refine wpl_v ?_ _ (exec_gtr (.tmp 28) 500 3 rfl (n1 : Int) rfl rfl _ HD1.out _) ?_; rfl) | (skip; refine wpl_v ?_ _ (exec_gtr (.tmp 38) 8 3 rfl (l.length : Int) rfl rfl _ HD2.out _) ?_; rfl) | (clear TX; refine wpl_v ?_ _ (exec_load68 (.tmp 6) rfl w.heap.size rfl _ _ _ _ _ HB6.out) ?_; rfl) | (go_at_call 61; go_must (refine (L1.out _ HX0.out).mono ?_; rintro e w2 ⟨rfl, hx2⟩; have HX2 := Lib.hid (HX0.out.trans hx2); have HC6 := Lib.hid (HB6.out.ext hx2); clear hx2; have TY : True := trivial)) | (clear TY; refine wpl_v ?_ _ (exec_load68 (.tmp 6) rfl w.heap.size rfl _ _ _ _ _ HC6.out) ?_; rfl) | (go_at_call 62; go_must (refine (RA.out _ HX2.out).mono ?_; rintro e w3 ⟨rfl, hx3⟩; rw [HR.out]; have HX3 := Lib.hid (HX2.out.trans hx3); have HD6 := Lib.hid (HC6.out.ext hx3); clear hx3)) | (go_at_call 63; go_must (refine (known8_any _).mono ?_; rintro e w9 ⟨rfl, hx9⟩; have HX9 := Lib.hid hx9; clear hx9)))
  have HG6 : Hid (At68 w3 w.heap.size (seRow ⟨num, (N : Int), sl, su, sv, gv⟩)) := Lib.hid (by rw [HXE.out]; exact HD6.out)
  obtain ⟨g, hg⟩ : ∃ g, w.heap.size = g := ⟨_, rfl⟩
  have hgw : w.heap.size ≤ g := Nat.le_of_eq hg
  rw [hg] at HG6 ⊢
  clear hg HB6 HC6 HD6
  go_loopw [15, 11, 12, 13, 14] (fun i va vb up nw wr => ∃ (k m : Nat) (vsa vsb : List Value), k ≤ l.length ∧ i = .int .i64 k ∧ up = .bool (anyN (ct + 1) (l.take k)) ∧ nw = .bool (anyN ct (l.take k)) ∧ NewS true w va vsa (encA E (l.take k)) wr ∧ NewS true w vb vsb (encB E o (l.take k)) wr ∧ Apart va vb ∧ At68 wr g (seRow ⟨m, (N : Int), sl, su, sv, gv⟩) ∧ m ≤ 18446744073709551615) (fun i _ _ _ _ _ => l.length - (intOf i).toNat)
  case atStart => exact ⟨0, num, [], [], by omega, rfl, rfl, rfl, NewS.nil HX3.out, NewS.nil HX3.out, (fun g hg => nomatch hg), HG6.out, hnum⟩
  case round =>
    obtain ⟨k, m, vsa, vsb, hk', rfl, rfl, rfl, hna, hnb, hap, hg6, hmm⟩ := hrel
    obtain ⟨va, hva, hna⟩ : ∃ v, v = _ ∧ NewS true w v vsa (encA E (l.take k)) wr := ⟨_, rfl, hna⟩
    subst hva
    obtain ⟨vb, hvb, hnb⟩ : ∃ v, v = _ ∧ NewS true w v vsb (encB E o (l.take k)) wr := ⟨_, rfl, hnb⟩
    subst hvb
    have HXR := Lib.hid hna.ext
    by_cases hlt : k < l.length
    · obtain ⟨bl, ol, cl', hA, _, _, hbl, hcell⟩ := Bs.pos HL.out (by omega)
      injection hA with hA1 hA2 hA3
      subst hA1
      subst hA3
      have hAN := encA_next E l k hlt
      have hBN := encB_next E o l k hlt
      have hUN := anyN_next (ct + 1) l k hlt
      have hVN := anyN_next ct l k hlt
      have hlA : (encA E (l.take k)).length ≤ 8 := by rw [encA_length, List.length_take]; omega
      have hlB : (encB E o (l.take k)).length ≤ 16 := by rw [encB_length, List.length_take]; omega
      have hck := hcell k hlt
      obtain ⟨n, hnq, hn256⟩ : ∃ n, (l.getD k 0).toNat = n ∧ n < 256 := ⟨_, rfl, (l.getD k 0).toNat_lt⟩
      have hcb : B8 (l.getD k 0) = .int .u8 (n : Int) := by rw [← hnq]; rfl
      rw [hnq] at hAN hBN hUN hVN
      rw [hcb] at hck
      obtain ⟨LA, hLA⟩ : ∃ LA, encA E (l.take k) = LA := ⟨_, rfl⟩
      obtain ⟨LB, hLB⟩ : ∃ LB, encB E o (l.take k) = LB := ⟨_, rfl⟩
      rw [hLA] at hna hAN hlA
      rw [hLB] at hnb hBN hlB
      obtain ⟨U, hU⟩ : ∃ U, anyN (ct + 1) (l.take k) = U := ⟨_, rfl⟩
      obtain ⟨V, hV⟩ : ∃ V, anyN ct (l.take k) = V := ⟨_, rfl⟩
      rw [hU] at hUN
      rw [hV] at hVN
      rw [hU, hV]
      have hc := (hna.ext.cell bl (ol + k) hbl).trans hck
      have hblr : bl < wr.heap.size := Nat.lt_of_lt_of_le hbl hna.ext.size
      have hcm : wr.cell? ⟨g, 0, none⟩ = some (.int .u64 (m : Int)) := by rw [cell_of_row _ _ _ _ _ _ hg6]; rfl
      have hfm : wr.frozen? ⟨g, 0, none⟩ = false := frozen_of_row _ _ _ _ _ hg6
      have hsm := hg6.lt
      have hua : Upd wr (wr.setCell ⟨g, 0, none⟩ (.int .u64 (n : Int))) g := (Upd.of_ext (Ext.refl wr) g).setCell (p := ⟨g, 0, none⟩) (.inl rfl) _
      have HGA : Hid (At68 (wr.setCell ⟨g, 0, none⟩ (.int .u64 (n : Int))) g (seRow ⟨n, (N : Int), sl, su, sv, gv⟩)) := Lib.hid (heap_setCell_same _ _ 0 _ _ (.int .u64 (n : Int)) hg6)
      have HSA := Lib.hid (hna.upd hua hg6 hgw)
      have HSB := Lib.hid (hnb.upd hua hg6 hgw)
      have HAP := Lib.hid hap
      have HAN := Lib.hid hAN
      have HBN := Lib.hid hBN
      have HUN := Lib.hid hUN
      have HVN := Lib.hid hVN
      have HCK : Hid (∀ w', Ext w w' → w'.cell? ⟨bl, ol + k, none⟩ = some (.int .u8 (n : Int)) ∧ bl < w'.heap.size) := Lib.hid (fun w' h => ⟨(h.cell bl (ol + k) hbl).trans hck, Nat.lt_of_lt_of_le hbl h.size⟩)
      have TC : True := trivial
      clear hna hnb hap hg6 hua hAN hBN hUN hVN hLA hLB hU hV hcell hck hcb hnq
      cases U <;> cases V
      all_goals
        go_wp2_with (first | (clear TC; refine wpl_load68 rfl _ rfl g rfl _ _ _ _ HGA.out ?_; have TD : True := trivial) | (go_at_call 64; clear TD; go_must (refine (ENC.out n (by omega) _ HSA.out.ext).mono ?_; rintro e w4 ⟨v4, rfl, hn4⟩; obtain ⟨A4, c4, e4, _, _, _, _⟩ := hn4.bs.is; rw [e4] at hn4 ⊢; have HA4 := Lib.hid (HSA.out.grow hn4.ext); have HB4 := Lib.hid (HSB.out.grow hn4.ext); have HG4 := Lib.hid (HGA.out.ext hn4.ext); have HN4 := Lib.hid hn4.own; clear hn4 e4; have TE : True := trivial)) | (at_builtin; clear TE; go_must (have hxq : Ext w4 (w4.alloc (.cells #[.slice A4 (E n).length c4] 23)) := (Ext.refl w4).alloc _; refine wpList_append_rd ei22 rfl _ _ rfl _ rfl (HA4.out.grow hxq).own _ rfl (one_val w4 _ rfl) (fun u hu => by have e : u = .slice A4 (E n).length c4 := (by simpa using hu); rw [e]; rfl) (by omega) ?_; intro v5 w5 ho5 hg5 hf5; have HA5 := Lib.hid ((HA4.out.grow hxq).app (.inl (Own.ext HN4.out hxq)) ho5 hg5 hf5); have HB5 := Lib.hid ((HB4.out.grow hxq).beside (HA4.out.grow hxq) HAP.out hg5); have HAP5 := Lib.hid (HAP.out.grown (HB4.out.grow hxq).own hf5); have HG5 := Lib.hid ((HG4.out.ext hxq).grew (HA4.out.grow hxq).own (by decide) hg5); have HN5 := Lib.hid (OwnB.grew23 (Own.ext HN4.out hxq) (HA4.out.grow hxq).own hg5); clear ho5 hg5 hf5 hxq; have TF : True := trivial)) | (at_builtin; clear TF; go_must (have hxq : Ext w5 (w5.alloc (.cells #[.slice Ao o.length co] 23)) := (Ext.refl w5).alloc _; refine wpList_append_rd ei22 rfl _ _ rfl _ rfl (HB5.out.grow hxq).own _ rfl (one_val w5 _ rfl) (fun u hu => by have e : u = .slice Ao o.length co := (by simpa using hu); rw [e]; rfl) (by omega) ?_; intro v6 w6 ho6 hg6 hf6; have HB6 := Lib.hid ((HB5.out.grow hxq).app (.inr ⟨rfl, HO.out⟩) ho6 hg6 hf6); have HA6 := Lib.hid ((HA5.out.grow hxq).beside (HB5.out.grow hxq) HAP5.out.symm hg6); have HAP6 := Lib.hid (HAP5.out.symm.grown (HA5.out.grow hxq).own hf6).symm; have HGG6 := Lib.hid ((HG5.out.ext hxq).grew (HB5.out.grow hxq).own (by decide) hg6); have HN6 := Lib.hid (OwnB.grew23 (Own.ext HN5.out hxq) (HB5.out.grow hxq).own hg6); clear ho6 hg6 hf6 hxq; have TG : True := trivial)) | (at_builtin; clear TG; go_must (have hxq : Ext w6 (w6.alloc (.cells #[.slice A4 (E n).length c4] 23)) := (Ext.refl w6).alloc _; refine wpList_append_rd ei22 rfl _ _ rfl _ rfl (HB6.out.grow hxq).own _ rfl (one_val w6 _ rfl) (fun u hu => by have e : u = .slice A4 (E n).length c4 := (by simpa using hu); rw [e]; rfl) (by simp; omega) ?_; intro v7 w7 ho7 hg7 hf7; have HB7 := Lib.hid ((HB6.out.grow hxq).app (.inl (Own.ext HN6.out hxq)) ho7 hg7 hf7); have HA7 := Lib.hid ((HA6.out.grow hxq).beside (HB6.out.grow hxq) HAP6.out.symm hg7); have HAP7 := Lib.hid (HAP6.out.symm.grown (HA6.out.grow hxq).own hf7).symm; have HG7 := Lib.hid ((HGG6.out.ext hxq).grew (HB6.out.grow hxq).own (by decide) hg7); obtain ⟨hc7, hl7⟩ := HCK.out _ HB7.out.ext; clear ho7 hg7 hf7 hxq)))
        go_roundw
        case rel => exact ⟨k + 1, n, _, _, by omega, by go_num, congrArg Value.bool (by rw [HUN.out]; first | rfl | (rw [Bool.eq_iff_iff]; simp only [beq_iff_eq, Bool.or_eq_true, decide_eq_true_eq, Bool.false_eq_true, false_or, Bool.false_or]; omega)), congrArg Value.bool (by rw [HVN.out]; first | rfl | (rw [Bool.eq_iff_iff]; simp only [beq_iff_eq, Bool.or_eq_true, decide_eq_true_eq, Bool.false_eq_true, false_or, Bool.false_or]; omega)), by rw [HAN.out]; exact HA7.out, by rw [HBN.out]; exact HB7.out, HAP7.out, HG7.out, by omega⟩
        case measure => (simp [intOf] <;> omega)
    · obtain rfl : k = l.length := by omega
      rw [List.take_length] at hna hnb ⊢
      have HA := Lib.hid hna
      have HB := Lib.hid hnb
      obtain ⟨U, hU⟩ : ∃ U, anyN (ct + 1) l = U := ⟨_, rfl⟩
      obtain ⟨V, hV⟩ : ∃ V, anyN ct l = V := ⟨_, rfl⟩
      have HUF := Lib.hid hU
      have HVF := Lib.hid hV
      rw [hU, hV]
      clear hna hnb hap hg6 hU hV
      cases U
      · cases V
        · skip
          have hch : ∀ ls, ls = encA E l ∨ ls = encB E o l → chosen key ct ls = none := fun ls hls => by
            rcases hls with rfl | rfl
            · unfold chosen
              rw [if_pos (by omega), pick_encA key _ E HE1.out, pick_encA key _ E HE1.out, HUF.out, HVF.out]
              rfl
            · unfold chosen
              rw [if_pos (by omega), pick_encB key _ E o HOG.out HE1.out, pick_encB key _ E o HOG.out HE1.out, HUF.out, HVF.out]
              rfl
          have CH : Hid (∀ u vs ls w', Ext w w' → Rss w' u vs ls → (ls = encA E l ∨ ls = encB E o l) → Calls Try.prog 71 #[.slice Ak key.length ck, .int .u64 (ct : Int), u] w' fun e w'' => ∃ s t : Value, e = .returned (.tuple #[.agg (seRow (Se0)), .int .i64 5]) ∧ SeR w'' (Se0) ∧ Ext w' w'') := Lib.hid (fun u vs ls w' h hu hls => (choose_any _ u key ct vs ls w' (Rd.ext HK.out h) (by omega) (by omega) hu (HSM.out ls hls)).mono fun e w'' ⟨y, c, h1, h2, h3, h4⟩ => by
            rw [hch ls hls] at h4
            rcases h4 with ⟨b', s, t, e1, e2, e3⟩ | ⟨e1, e2, e3⟩
            · (cases e1)
            · (subst e2; subst e3; exact ⟨Value.slice none 0 0, Value.slice none 0 0, h1, h2, h3⟩))
          have SS : Hid (∀ (s t s' t' : Value) (w' : World), SeR w' (Se0) → SeR w' (Se0) → Calls Try.prog 66 #[.agg (seRow (Se0)), .agg (seRow (Se0))] w' fun e w'' => e = .returned (.bool true) ∧ Ext w' w'') := Lib.hid (fun s t s' t' w' h1 h2 => by
            have := rsame_any _ _ w' h1 h2 (show (0 : Nat) ≤ _ by omega)
            rw [show sameB (Se0) (Se0) = true by simp [sameB, Se0]] at this
            exact this)
          have TG : True := trivial
          have hctb : ct ≤ 255 := by omega
          clear hch
          go_wp2_with (first | (go_at_call 71; clear TG; go_must (refine (CH.out _ _ _ _ HXR.out HA.out.rss (.inl rfl)).mono ?_; rintro e w6 ⟨s, t, rfl, hr6, hx6⟩; have HX6 := Lib.hid (HXR.out.trans hx6); have HB6 := Lib.hid (HB.out.grow hx6); have HY6 := Lib.hid hr6; clear hr6 hx6; have TH : True := trivial)) | (clear TH; refine wpl_store68 rfl _ _ rfl w6.heap.size _ _ _ _ (.int .u64 0) (.int .i64 0) (.slice none 0 0) (.slice none 0 0) rfl rfl (seRow_one HY6.out) (heap_alloc_last w6 _) ?_; intro w7 h7 hu7; have hx7 : Ext w6 w7 := ((Ext.refl w6).alloc _).upd_new hu7 (Nat.le_refl _); have HX7 := Lib.hid (HX6.out.trans hx7); have HB7 := Lib.hid (HB6.out.grow hx7); have HY7 := Lib.hid (HY6.out.ext hx7); have HG15 : Hid (At68 w7 w6.heap.size (seRow (Se0))) := Lib.hid h7; clear h7 hu7 hx7; have TI : True := trivial) | (go_at_call 71; clear TI; go_must (refine (CH.out _ _ _ _ HX7.out HB7.out.rss (.inr rfl)).mono ?_; rintro e w8 ⟨s', t', rfl, hr8, hx8⟩; have HX8 := Lib.hid (HX7.out.trans hx8); have HY8 := Lib.hid (HY7.out.ext hx8); have HZ8 := Lib.hid hr8; have HG158 := Lib.hid (HG15.out.ext hx8); clear hr8 hx8; have TJ : True := trivial)) | (clear TJ; refine wpl_store68 rfl _ _ rfl w8.heap.size _ _ _ _ (.int .u64 0) (.int .i64 0) (.slice none 0 0) (.slice none 0 0) rfl rfl (seRow_one HZ8.out) (heap_alloc_last w8 _) ?_; intro w9 h9 hu9; have hx9 : Ext w8 w9 := ((Ext.refl w8).alloc _).upd_new hu9 (Nat.le_refl _); have HX99 := Lib.hid (HX8.out.trans hx9); have HY9 := Lib.hid (HY8.out.ext hx9); have HZ9 := Lib.hid (HZ8.out.ext hx9); have HG159 := Lib.hid (HG158.out.ext hx9); have HG17 : Hid (At68 w9 w8.heap.size (seRow (Se0))) := Lib.hid h9; clear h9 hu9 hx9; have TK : True := trivial) | (clear TK; refine wpl_v ?_ _ (exec_load68 (.tmp 18) rfl w6.heap.size rfl _ _ _ _ _ HG159.out) ?_; rfl; have TM : True := trivial) | (clear TM; refine wpl_v ?_ _ (exec_load68 (.tmp 20) rfl w8.heap.size rfl _ _ _ _ _ HG17.out) ?_; rfl) | (go_at_call 66; go_must (refine (SS.out s t s' t' _ HY9.out HZ9.out).mono ?_; rintro e wa ⟨rfl, hxa⟩; have HXAA := Lib.hid (HX99.out.trans hxa); have hgaa := HG159.out.ext hxa; have hcn : wa.cell? ⟨w6.heap.size, 0, none⟩ = some (.int .u64 (0)) := (by rw [cell_of_row _ _ _ _ _ _ hgaa]; rfl); have hsn := hgaa.lt; clear hxa hgaa)) | (go_at_call 63; go_must (refine (known8_any _).mono ?_; rintro e wk ⟨rfl, hxk⟩; have HXK := Lib.hid hxk; clear hxk)))
          all_goals
            go_ret
            exact ⟨rfl, HXAA.out.trans HXK.out⟩
        · skip
          have hch : ∀ ls, ls = encA E l ∨ ls = encB E o l → chosen key ct ls = some (E (ct)) := fun ls hls => by
            rcases hls with rfl | rfl
            · unfold chosen
              rw [if_pos (by omega), pick_encA key _ E HE1.out, pick_encA key _ E HE1.out, HUF.out, HVF.out]
              rfl
            · unfold chosen
              rw [if_pos (by omega), pick_encB key _ E o HOG.out HE1.out, pick_encB key _ E o HOG.out HE1.out, HUF.out, HVF.out]
              rfl
          have CH : Hid (∀ u vs ls w', Ext w w' → Rss w' u vs ls → (ls = encA E l ∨ ls = encB E o l) → Calls Try.prog 71 #[.slice Ak key.length ck, .int .u64 (ct : Int), u] w' fun e w'' => ∃ s t : Value, e = .returned (.tuple #[.agg (seRow (⟨ct, (N : Int), sl, su, s, t⟩)), .int .i64 0]) ∧ SeR w'' (⟨ct, (N : Int), sl, su, s, t⟩) ∧ Ext w' w'') := Lib.hid (fun u vs ls w' h hu hls => (choose_any _ u key ct vs ls w' (Rd.ext HK.out h) (by omega) (by omega) hu (HSM.out ls hls)).mono fun e w'' ⟨y, c, h1, h2, h3, h4⟩ => by
            rw [hch ls hls] at h4
            rcases h4 with ⟨b', s, t, e1, e2, e3⟩ | ⟨e1, e2, e3⟩
            · (injection e1 with e; subst e; subst e2; subst e3; have hm : mkSe (E (ct)) s t = (⟨ct, (N : Int), sl, su, s, t⟩ : Se) := HMK.out (ct) s t (by omega); rw [hm] at h1 h2; exact ⟨s, t, h1, h2, h3⟩)
            · (cases e1))
          have SS : Hid (∀ (s t s' t' : Value) (w' : World), SeR w' (⟨ct, (N : Int), sl, su, s, t⟩) → SeR w' (⟨ct, (N : Int), sl, su, s', t'⟩) → Calls Try.prog 66 #[.agg (seRow (⟨ct, (N : Int), sl, su, s, t⟩)), .agg (seRow (⟨ct, (N : Int), sl, su, s', t'⟩))] w' fun e w'' => e = .returned (.bool true) ∧ Ext w' w'') := Lib.hid (fun s t s' t' w' h1 h2 => by
            have := rsame_any _ _ w' h1 h2 (show su.length ≤ _ by omega)
            rw [show sameB (⟨ct, (N : Int), sl, su, s, t⟩) (⟨ct, (N : Int), sl, su, s', t'⟩) = true by simp [sameB, Se0]] at this
            exact this)
          have TG : True := trivial
          have hctb : ct ≤ 255 := by omega
          clear hch
          go_wp2_with (first | (go_at_call 71; clear TG; go_must (refine (CH.out _ _ _ _ HXR.out HA.out.rss (.inl rfl)).mono ?_; rintro e w6 ⟨s, t, rfl, hr6, hx6⟩; have HX6 := Lib.hid (HXR.out.trans hx6); have HB6 := Lib.hid (HB.out.grow hx6); have HY6 := Lib.hid hr6; clear hr6 hx6; have TH : True := trivial)) | (clear TH; refine wpl_store68 rfl _ _ rfl w6.heap.size _ _ _ _ (.int .u64 0) (.int .i64 0) (.slice none 0 0) (.slice none 0 0) rfl rfl (seRow_one HY6.out) (heap_alloc_last w6 _) ?_; intro w7 h7 hu7; have hx7 : Ext w6 w7 := ((Ext.refl w6).alloc _).upd_new hu7 (Nat.le_refl _); have HX7 := Lib.hid (HX6.out.trans hx7); have HB7 := Lib.hid (HB6.out.grow hx7); have HY7 := Lib.hid (HY6.out.ext hx7); have HG15 : Hid (At68 w7 w6.heap.size (seRow (⟨ct, (N : Int), sl, su, s, t⟩))) := Lib.hid h7; clear h7 hu7 hx7; have TI : True := trivial) | (go_at_call 71; clear TI; go_must (refine (CH.out _ _ _ _ HX7.out HB7.out.rss (.inr rfl)).mono ?_; rintro e w8 ⟨s', t', rfl, hr8, hx8⟩; have HX8 := Lib.hid (HX7.out.trans hx8); have HY8 := Lib.hid (HY7.out.ext hx8); have HZ8 := Lib.hid hr8; have HG158 := Lib.hid (HG15.out.ext hx8); clear hr8 hx8; have TJ : True := trivial)) | (clear TJ; refine wpl_store68 rfl _ _ rfl w8.heap.size _ _ _ _ (.int .u64 0) (.int .i64 0) (.slice none 0 0) (.slice none 0 0) rfl rfl (seRow_one HZ8.out) (heap_alloc_last w8 _) ?_; intro w9 h9 hu9; have hx9 : Ext w8 w9 := ((Ext.refl w8).alloc _).upd_new hu9 (Nat.le_refl _); have HX99 := Lib.hid (HX8.out.trans hx9); have HY9 := Lib.hid (HY8.out.ext hx9); have HZ9 := Lib.hid (HZ8.out.ext hx9); have HG159 := Lib.hid (HG158.out.ext hx9); have HG17 : Hid (At68 w9 w8.heap.size (seRow (⟨ct, (N : Int), sl, su, s', t'⟩))) := Lib.hid h9; clear h9 hu9 hx9; have TK : True := trivial) | (clear TK; refine wpl_v ?_ _ (exec_load68 (.tmp 18) rfl w6.heap.size rfl _ _ _ _ _ HG159.out) ?_; rfl; have TM : True := trivial) | (clear TM; refine wpl_v ?_ _ (exec_load68 (.tmp 20) rfl w8.heap.size rfl _ _ _ _ _ HG17.out) ?_; rfl) | (go_at_call 66; go_must (refine (SS.out s t s' t' _ HY9.out HZ9.out).mono ?_; rintro e wa ⟨rfl, hxa⟩; have HXAA := Lib.hid (HX99.out.trans hxa); have hgaa := HG159.out.ext hxa; have hcn : wa.cell? ⟨w6.heap.size, 0, none⟩ = some (.int .u64 (((ct : Nat) : Int))) := (by rw [cell_of_row _ _ _ _ _ _ hgaa]; rfl); have hsn := hgaa.lt; clear hxa hgaa)) | (go_at_call 63; go_must (refine (known8_any _).mono ?_; rintro e wk ⟨rfl, hxk⟩; have HXK := Lib.hid hxk; clear hxk)))
          all_goals
            go_ret
            exact ⟨rfl, HXAA.out.trans HXK.out⟩
      · skip
        have hch : ∀ ls, ls = encA E l ∨ ls = encB E o l → chosen key ct ls = some (E (ct + 1)) := fun ls hls => by
          rcases hls with rfl | rfl
          · unfold chosen
            rw [if_pos (by omega), pick_encA key _ E HE1.out, pick_encA key _ E HE1.out, HUF.out, HVF.out]
            rfl
          · unfold chosen
            rw [if_pos (by omega), pick_encB key _ E o HOG.out HE1.out, pick_encB key _ E o HOG.out HE1.out, HUF.out, HVF.out]
            rfl
        have CH : Hid (∀ u vs ls w', Ext w w' → Rss w' u vs ls → (ls = encA E l ∨ ls = encB E o l) → Calls Try.prog 71 #[.slice Ak key.length ck, .int .u64 (ct : Int), u] w' fun e w'' => ∃ s t : Value, e = .returned (.tuple #[.agg (seRow (⟨ct + 1, (N : Int), sl, su, s, t⟩)), .int .i64 0]) ∧ SeR w'' (⟨ct + 1, (N : Int), sl, su, s, t⟩) ∧ Ext w' w'') := Lib.hid (fun u vs ls w' h hu hls => (choose_any _ u key ct vs ls w' (Rd.ext HK.out h) (by omega) (by omega) hu (HSM.out ls hls)).mono fun e w'' ⟨y, c, h1, h2, h3, h4⟩ => by
          rw [hch ls hls] at h4
          rcases h4 with ⟨b', s, t, e1, e2, e3⟩ | ⟨e1, e2, e3⟩
          · (injection e1 with e; subst e; subst e2; subst e3; have hm : mkSe (E (ct + 1)) s t = (⟨ct + 1, (N : Int), sl, su, s, t⟩ : Se) := HMK.out (ct + 1) s t (by omega); rw [hm] at h1 h2; exact ⟨s, t, h1, h2, h3⟩)
          · (cases e1))
        have SS : Hid (∀ (s t s' t' : Value) (w' : World), SeR w' (⟨ct + 1, (N : Int), sl, su, s, t⟩) → SeR w' (⟨ct + 1, (N : Int), sl, su, s', t'⟩) → Calls Try.prog 66 #[.agg (seRow (⟨ct + 1, (N : Int), sl, su, s, t⟩)), .agg (seRow (⟨ct + 1, (N : Int), sl, su, s', t'⟩))] w' fun e w'' => e = .returned (.bool true) ∧ Ext w' w'') := Lib.hid (fun s t s' t' w' h1 h2 => by
          have := rsame_any _ _ w' h1 h2 (show su.length ≤ _ by omega)
          rw [show sameB (⟨ct + 1, (N : Int), sl, su, s, t⟩) (⟨ct + 1, (N : Int), sl, su, s', t'⟩) = true by simp [sameB, Se0]] at this
          exact this)
        have TG : True := trivial
        have hctb : ct ≤ 255 := by omega
        clear hch
        go_wp2_with (first | (go_at_call 71; clear TG; go_must (refine (CH.out _ _ _ _ HXR.out HA.out.rss (.inl rfl)).mono ?_; rintro e w6 ⟨s, t, rfl, hr6, hx6⟩; have HX6 := Lib.hid (HXR.out.trans hx6); have HB6 := Lib.hid (HB.out.grow hx6); have HY6 := Lib.hid hr6; clear hr6 hx6; have TH : True := trivial)) | (clear TH; refine wpl_store68 rfl _ _ rfl w6.heap.size _ _ _ _ (.int .u64 0) (.int .i64 0) (.slice none 0 0) (.slice none 0 0) rfl rfl (seRow_one HY6.out) (heap_alloc_last w6 _) ?_; intro w7 h7 hu7; have hx7 : Ext w6 w7 := ((Ext.refl w6).alloc _).upd_new hu7 (Nat.le_refl _); have HX7 := Lib.hid (HX6.out.trans hx7); have HB7 := Lib.hid (HB6.out.grow hx7); have HY7 := Lib.hid (HY6.out.ext hx7); have HG15 : Hid (At68 w7 w6.heap.size (seRow (⟨ct + 1, (N : Int), sl, su, s, t⟩))) := Lib.hid h7; clear h7 hu7 hx7; have TI : True := trivial) | (go_at_call 71; clear TI; go_must (refine (CH.out _ _ _ _ HX7.out HB7.out.rss (.inr rfl)).mono ?_; rintro e w8 ⟨s', t', rfl, hr8, hx8⟩; have HX8 := Lib.hid (HX7.out.trans hx8); have HY8 := Lib.hid (HY7.out.ext hx8); have HZ8 := Lib.hid hr8; have HG158 := Lib.hid (HG15.out.ext hx8); clear hr8 hx8; have TJ : True := trivial)) | (clear TJ; refine wpl_store68 rfl _ _ rfl w8.heap.size _ _ _ _ (.int .u64 0) (.int .i64 0) (.slice none 0 0) (.slice none 0 0) rfl rfl (seRow_one HZ8.out) (heap_alloc_last w8 _) ?_; intro w9 h9 hu9; have hx9 : Ext w8 w9 := ((Ext.refl w8).alloc _).upd_new hu9 (Nat.le_refl _); have HX99 := Lib.hid (HX8.out.trans hx9); have HY9 := Lib.hid (HY8.out.ext hx9); have HZ9 := Lib.hid (HZ8.out.ext hx9); have HG159 := Lib.hid (HG158.out.ext hx9); have HG17 : Hid (At68 w9 w8.heap.size (seRow (⟨ct + 1, (N : Int), sl, su, s', t'⟩))) := Lib.hid h9; clear h9 hu9 hx9; have TK : True := trivial) | (clear TK; refine wpl_v ?_ _ (exec_load68 (.tmp 18) rfl w6.heap.size rfl _ _ _ _ _ HG159.out) ?_; rfl; have TM : True := trivial) | (clear TM; refine wpl_v ?_ _ (exec_load68 (.tmp 20) rfl w8.heap.size rfl _ _ _ _ _ HG17.out) ?_; rfl) | (go_at_call 66; go_must (refine (SS.out s t s' t' _ HY9.out HZ9.out).mono ?_; rintro e wa ⟨rfl, hxa⟩; have HXAA := Lib.hid (HX99.out.trans hxa); have hgaa := HG159.out.ext hxa; have hcn : wa.cell? ⟨w6.heap.size, 0, none⟩ = some (.int .u64 (((ct + 1 : Nat) : Int))) := (by rw [cell_of_row _ _ _ _ _ _ hgaa]; rfl); have hsn := hgaa.lt; clear hxa hgaa)) | (go_at_call 63; go_must (refine (known8_any _).mono ?_; rintro e wk ⟨rfl, hxk⟩; have HXK := Lib.hid hxk; clear hxk)))
        all_goals
          go_ret
          exact ⟨rfl, HXAA.out.trans HXK.out⟩
theorem sord_law
    (kv lv ov : Value) (key l o : List UInt8) (x : Se) (ct : Nat) (hct : ct < 256) (w : World) (hK : Bs w kv key) (hL : Bs w lv l) (hO : Bs w ov o) (hx : SeR w x) (hx1 : x.sl.length ≤ 140737488355328) (hx2 : x.su.length ≤ 4398046511104)
 : Calls Try.prog 25 #[kv, x.v, lv, .int .u8 (ct : Int), ov] w fun e w' => e = .returned (.bool true) ∧ Ext w w' := by
  by_cases hk : 100 < key.length
  · exact sord_key kv lv ov key l o x ct hct w hK hL hO hx hx1 hx2 hk
  by_cases hn : 500 < x.sl.length + 32 * x.su.length
  · exact sord_big kv lv ov key l o x ct hct w hK hL hO hx hx1 hx2 (by omega) hn
  cases hr : rightB x.blk x.sl x.su with
  | false => exact sord_not kv lv ov key l o x ct hct w hK hL hO hx hx1 hx2 (by omega) (by omega) hr
  | true =>
    by_cases hm : 8 < l.length
    · exact sord_many kv lv ov key l o x ct hct w hK hL hO hx hx1 hx2 (by omega) (by omega) hr hm
    by_cases ho : 15 < o.length
    · exact sord_odd kv lv ov key l o x ct hct w hK hL hO hx hx1 hx2 (by omega) (by omega) hr (by omega) ho
    obtain ⟨N, hN, _⟩ := right_bounds hr
    refine sord_good x.num N x.sl x.su x.sv x.gv kv lv ov key l o x ct hct w hK hL hO hx hx1 hx2 ?_ (by omega) (by omega) hr (by omega) (by omega)
    obtain ⟨a, b, c, d, e, f⟩ := x
    simp only at hN
    rw [hN]
end Go.Proofs.Ytapojpjmeadabaa
end

section
/- Arguments opened: byte slices, each within the row's own reach. -/
namespace Go.Proofs.Ytapojpjmeadabaa
open Go.ChangeShapes Go.WideShapes Go.ChangeAt Go.RowKit
set_option linter.unusedVariables false
set_option linter.unusedSimpArgs false
section
open Go.ChangeShapes
variable {H : Type} {enc : TypeId × Value → H} {P : Program} {w : World} {base : Nat} {spare : Nat → Bool} {held : Bool}
theorem trodAll_five {t t' t'' t3 t4 : TypeId} {args : Array Value} {ds : List (DataW H)} {ps : List MemPlace} (h : DataW.TrodAll enc P w base spare held [t, t', t'', t3, t4] args.toList ds ps) :
    ∃ v v' v'' v3 v4 d d' d'' d3 d4 p p' p'' p3 p4, args = #[v, v', v'', v3, v4] ∧ ds = [d, d', d'', d3, d4] ∧ ps = p ++ p' ++ p'' ++ p3 ++ p4 ∧ DataW.Trod enc P w base spare held t v d p ∧ DataW.Trod enc P w base spare held t' v' d' p' ∧ DataW.Trod enc P w base spare held t'' v'' d'' p'' ∧ DataW.Trod enc P w base spare held t3 v3 d3 p3 ∧ DataW.Trod enc P w base spare held t4 v4 d4 p4 := by
  obtain ⟨v, vs, d, ds', p, q, hargs, rfl, rfl, hd, hrest⟩ := trodAll_cons h
  obtain ⟨v', vs', d', ds'', p', q', rfl, rfl, rfl, hd', hrest'⟩ := trodAll_cons hrest
  obtain ⟨v'', vs'', d'', ds''', p'', q'', rfl, rfl, rfl, hd'', hrest''⟩ := trodAll_cons hrest'
  obtain ⟨v3, vs3, d3, ds3, p3, q3, rfl, rfl, rfl, hd3, hrest3⟩ := trodAll_cons hrest''
  obtain ⟨v4, vs4, d4, ds4, p4, q4, rfl, rfl, rfl, hd4, hrest4⟩ := trodAll_cons hrest3
  obtain ⟨rfl, rfl, rfl⟩ := trodAll_nil hrest4
  exact ⟨v, v', v'', v3, v4, d, d', d'', d3, d4, p, p', p'', p3, p4, by cases args; simp_all, rfl, by simp, hd, hd', hd'', hd3, hd4⟩
end
section
variable {H : Type} {enc : TypeId × Value → H} {W : World}
set_option maxRecDepth 100000 in
theorem open_rss_sized {base : Nat} {v : Value} {d : DataW H} {p : List MemPlace} {ts : List TypeId} {ds : List (DataW H)} (hz0 : (DataW.weightsEach Try.prog ts ds).all (· ≤ reachBytes) = true) (j : Nat) (htj : ts[j]? = some 22) (hdj : ds[j]? = some d)
    (hval : Value.okWide Try.prog W .any base 22 v) (h : DataW.Trod enc Try.prog W 0 (fun _ => true) true 22 v d p) :
    ∃ vs ls, Rss W v vs ls ∧ ∀ b ∈ ls, b.length ≤ 140737488355328 := by
  obtain ⟨a1, len1, cap1, rfl⟩ := okWide_slice Try.underlying22 hval
  obtain ⟨fuel, hf⟩ := h
  rcases Go.Deep.open_slice1 Try.underlying22 cellsOf23 hf with ⟨hcs, hx⟩ | ⟨a, len, cap, m, n, V, D, Pl, hcs, _, hl, hm, hmm, hx, hcell⟩
  · simp [Value.cells] at hcs
    obtain ⟨rfl, rfl, rfl⟩ := hcs
    exact ⟨[], [], ⟨Rd.nil W 1, fun i hi => absurd hi (Nat.not_lt_zero _)⟩, fun b hb => by cases hb⟩
  · simp [Value.cells] at hcs
    obtain ⟨rfl, rfl, rfl⟩ := hcs
    simp only [if_true] at hmm
    subst hmm
    simp only [Prod.mk.injEq] at hx
    obtain ⟨rfl, _⟩ := hx
    have each : ∀ i, i < len1 → ∃ l : List UInt8, Bs W (V i) l ∧ l.length ≤ 140737488355328 := fun i hi => by
      exact bs_sized (hcell i (by omega)).2 (fun k hk => by
        have h1 := List.all_eq_true.1 hz0 _ (DataW.weights_mem_each htj hdj k (by
          simp only [DataW.weights, Try.underlying22, List.mem_cons, List.mem_append]
          exact Or.inr (Or.inl (weightsAll_mem (d := D i) (List.mem_map.2 ⟨i, List.mem_range.2 hi, rfl⟩) k hk))))
        simpa using h1)
    obtain ⟨L, hL⟩ := Go.Deep.choose_lt each
    refine ⟨(List.range len1).map V, (List.range len1).map L, ⟨?_, fun i hi => ?_⟩, fun b hb => ?_⟩
    · rw [List.length_map, List.length_range]
      refine ⟨by simp, some a, _, rfl, hl, hm, (fun h => by cases h), fun h0 => ?_⟩
      obtain ⟨ab, ao, spot⟩ := a
      have hspot : spot = none := by simpa [Addr.add] using World.cell?_spot (hcell 0 (by omega)).1
      subst hspot
      refine ⟨ab, ao, rfl, ?_, fun j u hj => ?_⟩
      · have := World.block_lt_of_cell? W _ (hcell 0 (by omega)).1
        simpa [Addr.add] using this
      · have hj' : j < len1 := by have := (List.getElem?_eq_some_iff.1 hj).1; simpa using this
        have hcj := (hcell j (by omega)).1
        rw [Addr.add_lit] at hcj
        rw [hcj]
        simp [hj'] at hj
        rw [hj]
    · have hi' : i < len1 := by simpa using hi
      refine ⟨V i, by simp [hi'], ?_⟩
      have e : ((List.range len1).map L).getD i [] = L i := by simp [List.getD, hi']
      rw [e]
      exact (hL i hi').1
    · obtain ⟨i, hi, rfl⟩ := List.mem_map.1 hb
      exact (hL i (List.mem_range.1 hi)).2
end
end Go.Proofs.Ytapojpjmeadabaa
end

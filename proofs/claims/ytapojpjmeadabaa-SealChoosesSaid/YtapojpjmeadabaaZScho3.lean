/- Scho3, Law9: several texts in one. -/
import Derived.Test.YtapojpjmeadabaaZScho2
import Derived.Test.YtapojpjmeadabaaZLaw8
section
/- sacristanlaw08.SealChooses: two that were sealed, the other ways. -/
namespace Go.Proofs.Ytapojpjmeadabaa
open Go.RowKit
set_option linter.unusedVariables false
set_option linter.unusedSimpArgs false
attribute [local go_sem] lt_ext cell?_ext frozen?_ext shape?_ext

set_option maxRecDepth 100000 in
set_option maxHeartbeats 8000000 in
theorem scho_c5
    (num N : Nat) (sl : List UInt8) (su : List (List UInt8)) (sv gv : Value) (kv : Value) (key : List UInt8) (x : Se) (hxe : x = ⟨num, N, sl, su, sv, gv⟩) (a b ct : Nat) (ha : a ≤ 18446744073709551615) (hb : b ≤ 18446744073709551615) (hct : ct ≤ 18446744073709551615) (w : World) (hK : Bs w kv key) (hx : SeR w x) (hx1 : x.sl.length ≤ 140737488355328) (hx2 : x.su.length ≤ 4398046511104)
    (hk : key.length ≤ 100) (hn : x.sl.length + 32 * x.su.length ≤ 1000) (hr : rightB x.blk x.sl x.su = true) (hab : a ≠ b)
    (hmx : ct < 18446744073709551615) (g1 : ¬ a = ct + 1) (g2 : ¬ b = ct + 1) (g3 : ¬ a = ct) (g4 : ¬ b = ct)
 : Calls Try.prog 24 #[kv, x.v, .int .u64 (a : Int), .int .u64 (b : Int), .int .u64 (ct : Int)] w fun e w' => e = .returned (.bool true) ∧ Ext w w' := by
  subst hxe
  obtain ⟨N', hN', hNb, hsl, hsu⟩ := right_bounds hr
  obtain rfl : N = N' := by
    have e : (N : Int) = (N' : Int) := hN'
    omega
  have h1k : sl.length ≤ 1000 := by have e : sl.length + 32 * su.length ≤ 1000 := hn; omega
  have h2k : su.length ≤ 1000 := by have e : sl.length + 32 * su.length ≤ 1000 := hn; omega
  have hsr : ∀ n, n ≤ 18446744073709551615 → ∀ w', Ext w w' → SeR w' ⟨n, (N : Int), sl, su, sv, gv⟩ := fun n hnn w' h => ⟨(hx.ext h).sl, (hx.ext h).su, hnn, hx.lo, hx.hi⟩
  have hr' : rightB (N : Int) sl su = true := hr
  have h32 : ∀ d ∈ su, d.length = 32 := hx.su.all
  have E1 : Hid (∀ n, n ≤ 18446744073709551615 → ∀ w', Ext w w' → Calls Try.prog 64 #[kv, .agg (seRow ⟨n, (N : Int), sl, su, sv, gv⟩)] w' fun e w'' => ∃ v, e = .returned (.tuple #[v, .int .i64 0]) ∧ NewB w' v (encS key n N sl su) w'') := Lib.hid (fun n hnn w' h => encode_any kv _ key w' (Rd.ext hK h) (by omega) (hsr n hnn w' h) hr')
  obtain ⟨gC, fC1, fC2, fC3, fC4⟩ := good_enc key a N ha sl su h32 hr'
  obtain ⟨gD, fD1, fD2, fD3, fD4⟩ := good_enc key b N hb sl su h32 hr'
  have hlC := encS_length key a N sl su hsl hsu h32
  have hlD := encS_length key b N sl su hsl hsu h32
  obtain ⟨C, hC⟩ : ∃ C, encS key a N sl su = C := ⟨_, rfl⟩
  obtain ⟨D, hD⟩ : ∃ D, encS key b N sl su = D := ⟨_, rfl⟩
  rw [hC] at gC fC1 fC2 fC3 fC4 hlC
  rw [hD] at gD fD1 fD2 fD3 fD4 hlD
  have hsmall : ∀ ls, ls = [C, D] ∨ ls = [D, [], C] → ∀ b ∈ ls, b.length ≤ 1073741824 := fun ls hls b hb => by
    rcases hls with rfl | rfl
    · simp only [List.mem_cons, List.not_mem_nil, or_false] at hb
      rcases hb with rfl | rfl <;> omega
    · simp only [List.mem_cons, List.not_mem_nil, or_false] at hb
      rcases hb with rfl | rfl | rfl
      · omega
      · exact Nat.zero_le _
      · omega
  have hch : ∀ ls, ls = [C, D] ∨ ls = [D, [], C] → chosen key ct ls = none := fun ls hls => by
    rcases hls with rfl | rfl
    · unfold chosen
      simp only [pick_two key _ a b C D gC gD fC2 fD2]
      rw [if_pos hmx]; simp [g1, g2, g3, g4]
    · unfold chosen
      simp only [pick_three key _ a b C D gC gD fC2 fD2]
      rw [if_pos hmx]; simp [g1, g2, g3, g4]
  have CH : Hid (∀ u vs ls w', Ext w w' → Rss w' u vs ls → (ls = [C, D] ∨ ls = [D, [], C]) → Calls Try.prog 71 #[kv, .int .u64 (ct : Int), u] w' fun e w'' => ∃ s t : Value, e = .returned (.tuple #[.agg (seRow (Se0)), .int .i64 5]) ∧ SeR w'' (Se0) ∧ Ext w' w'') := Lib.hid (fun u vs ls w' h hu hls => (choose_any kv u key ct vs ls w' (Rd.ext hK h) (by omega) hct hu (hsmall ls hls)).mono fun e w'' ⟨y, c, h1, h2, h3, h4⟩ => by
    rw [hch ls hls] at h4
    rcases h4 with ⟨b', s, t, e1, e2, e3⟩ | ⟨e1, e2, e3⟩
    · (cases e1)
    · (subst e2; subst e3; exact ⟨Value.slice none 0 0, Value.slice none 0 0, h1, h2, h3⟩))
  have SS : Hid (∀ (s t s' t' : Value) (w' : World), SeR w' (Se0) → SeR w' (Se0) → Calls Try.prog 66 #[.agg (seRow (Se0)), .agg (seRow (Se0))] w' fun e w'' => e = .returned (.bool true) ∧ Ext w' w'') := Lib.hid (fun s t s' t' w' h1 h2 => by
    have := rsame_any _ _ w' h1 h2 (show (0 : Nat) ≤ _ by omega)
    rw [show sameB (Se0) (Se0) = true by simp [sameB, Se0]] at this
    exact this)
  have qab : ((a : Int) == (b : Int)) = false := by
    have : ¬ (a : Int) = (b : Int) := by omega
    simpa using this
  have ⟨hwr, hwr2, q1, q2, q3, q4⟩ := up_facts a b ct hmx false false false false (decide_eq_false (by omega)) (decide_eq_false (by omega)) (decide_eq_false (by omega)) (decide_eq_false (by omega)); clear g1
  have hsrC := fun n hnn => Lib.hid (hsr n hnn)
  have HEC := Lib.hid hC
  have HED := Lib.hid hD
  clear gC fC1 fC2 fC3 fC4 hlC gD fD1 fD2 fD3 fD4 hlD hC hD hch hsmall hsr h32 hr' hsl hsu hN' hab
  have hn' : sl.length + 32 * su.length ≤ 1000 := hn
  clear hn
  obtain ⟨x, hxe⟩ : ∃ x : Se, (⟨num, (N : Int), sl, su, sv, gv⟩ : Se) = x := ⟨_, rfl⟩
  rw [hxe] at hx hx1 hx2 hr
  have hn : x.sl.length + 32 * x.su.length ≤ 1000 := by rw [← hxe]; exact hn'
  have HXE := Lib.hid hxe
  clear hn'
  rw [show Calls Try.prog 24 #[kv, (⟨num, (N : Int), sl, su, sv, gv⟩ : Se).v, .int .u64 (a : Int), .int .u64 (b : Int), .int .u64 (ct : Int)] = Calls Try.prog 24 #[kv, x.v, .int .u64 (a : Int), .int .u64 (b : Int), .int .u64 (ct : Int)] by rw [hxe]]
  clear hxe
  obtain ⟨Ak, ck, rfl, _, _, _, _⟩ := hK.is
  obtain ⟨n1, hn1⟩ : ∃ n, x.sl.length + 32 * x.su.length = n := ⟨_, rfl⟩
  have hn1b : n1 ≤ 1407374883553280 := by omega
  have L1 : Hid (∀ w', Ext w w' → Calls Try.prog 61 #[.agg (seRow x)] w' fun e w'' => e = .returned (.int .i64 (n1 : Int)) ∧ Ext w' w'') := Lib.hid (fun w' h => by have := slong_any x w' (hx.ext h) (by omega) (by omega); rw [hn1] at this; exact this)
  have RA : Hid (∀ w', Ext w w' → Calls Try.prog 62 #[.agg (seRow x)] w' fun e w'' => e = .returned (.bool (rightB x.blk x.sl x.su)) ∧ Ext w' w'') := Lib.hid (fun w' h => rright_any x w' (hx.ext h) hx1)
  have HNA := Lib.hid hn1
  have HK := Lib.hid hK
  have HX := Lib.hid hx
  have hb6 : At68 (w.alloc (.cells #[.int .u64 (x.num : Int), .int .i64 x.blk, x.sv, x.gv] 68)) w.heap.size (seRow x) := heap_alloc_last w _
  have hx0 : Ext w (w.alloc (.cells #[.int .u64 (x.num : Int), .int .i64 x.blk, x.sv, x.gv] 68)) := (Ext.refl w).alloc _
  have HB6 := Lib.hid hb6
  have HX0 := Lib.hid hx0
  clear hx hn1 hb6 hx0 hK
  have HR := Lib.hid hr
  clear hr
  have HDK : Hid (decide (100 < (key.length : Int)) = false) := Lib.hid (decide_eq_false (by omega))
  have HD1 : Hid (decide (1000 < (n1 : Int)) = false) := Lib.hid (decide_eq_false (by have := HNA.out; omega))
  have TX : True := trivial
  go_enter Try.func24, Try.ntmps24
  go_wp2_with (first | (refine wpl_v ?_ _ (exec_gtr (.tmp 24) 100 3 rfl (key.length : Int) rfl rfl _ HDK.out _) ?_; rfl) | (skip; refine wpl_v ?_ _ (exec_gtr (.tmp 28) 1000 3 rfl (n1 : Int) rfl rfl _ HD1.out _) ?_; rfl) | (clear TX; refine wpl_v ?_ _ (exec_load68 (.tmp 6) rfl w.heap.size rfl _ _ _ _ _ HB6.out) ?_; rfl) | (go_at_call 61; go_must (refine (L1.out _ HX0.out).mono ?_; rintro e w2 ⟨rfl, hx2⟩; have HX2 := Lib.hid (HX0.out.trans hx2); have HC6 := Lib.hid (HB6.out.ext hx2); clear hx2; have TY : True := trivial)) | (clear TY; refine wpl_v ?_ _ (exec_load68 (.tmp 6) rfl w.heap.size rfl _ _ _ _ _ HC6.out) ?_; rfl) | (go_at_call 62; go_must (refine (RA.out _ HX2.out).mono ?_; rintro e w3 ⟨rfl, hx3⟩; rw [HR.out]; have HX3 := Lib.hid (HX2.out.trans hx3); have HD6 := Lib.hid (HC6.out.ext hx3); clear hx3; have hca : w3.cell? ⟨w.heap.size, 0, none⟩ = some (.int .u64 (x.num : Int)) := (by rw [cell_of_row _ _ _ _ _ _ HD6.out]; rfl); have hfa : w3.frozen? ⟨w.heap.size, 0, none⟩ = false := frozen_of_row _ _ _ _ _ HD6.out; have hsa := HD6.out.lt; have hua : Upd w3 (w3.setCell ⟨w.heap.size, 0, none⟩ (.int .u64 (a : Int))) w.heap.size := (Upd.of_ext (Ext.refl w3) w.heap.size).setCell (p := ⟨w.heap.size, 0, none⟩) (.inl rfl) _; have HXA := Lib.hid (HX3.out.upd_new hua (Nat.le_refl _)); have HGA : Hid (At68 (w3.setCell ⟨w.heap.size, 0, none⟩ (.int .u64 (a : Int))) w.heap.size (seRow ⟨a, (N : Int), sl, su, sv, gv⟩)) := Lib.hid (by have h := heap_setCell_same _ _ 0 _ _ (.int .u64 (a : Int)) HD6.out; rw [← HXE.out] at h; exact h); clear hua; have TC : True := trivial)) | (go_at_call 63; go_must (refine (known8_any _).mono ?_; rintro e w9 ⟨rfl, hx9⟩; have HX9 := Lib.hid hx9; clear hx9)) | (clear TC; refine wpl_load68 rfl _ rfl w.heap.size rfl _ _ _ _ HGA.out ?_; have TD : True := trivial) | (go_at_call 64; clear TD; go_must (refine (E1.out a ha _ HXA.out).mono ?_; rintro e w4 ⟨v4, rfl, hn4⟩; rw [HEC.out] at hn4; obtain ⟨A4, c4, e4, _, _, _, _⟩ := hn4.bs.is; rw [e4] at hn4 ⊢; have HX4 := Lib.hid (HXA.out.trans hn4.ext); have hg4 := HGA.out.ext hn4.ext; have hca4 : w4.cell? ⟨w.heap.size, 0, none⟩ = some (.int .u64 (a : Int)) := (by rw [cell_of_row _ _ _ _ _ _ hg4]; rfl); have hfa4 : w4.frozen? ⟨w.heap.size, 0, none⟩ = false := frozen_of_row _ _ _ _ _ hg4; have hsa4 := hg4.lt; have hua : Upd w4 (w4.setCell ⟨w.heap.size, 0, none⟩ (.int .u64 (b : Int))) w.heap.size := (Upd.of_ext (Ext.refl w4) w.heap.size).setCell (p := ⟨w.heap.size, 0, none⟩) (.inl rfl) _; have HXB := Lib.hid (HX4.out.upd_new hua (Nat.le_refl _)); have HGB : Hid (At68 (w4.setCell ⟨w.heap.size, 0, none⟩ (.int .u64 (b : Int))) w.heap.size (seRow ⟨b, (N : Int), sl, su, sv, gv⟩)) := Lib.hid (heap_setCell_same _ _ 0 _ _ (.int .u64 (b : Int)) hg4); have HCB := Lib.hid (Own.rd (Own.upd68 hn4.own hua hg4 (by decide))); clear hua hg4 hn4 e4; have TE : True := trivial)) | (clear TE; refine wpl_load68 rfl _ rfl w.heap.size rfl _ _ _ _ HGB.out ?_; have TF : True := trivial) | (go_at_call 64; clear TF; go_must (refine (E1.out b hb _ HXB.out).mono ?_; rintro e w5 ⟨v5, rfl, hn5⟩; rw [HED.out] at hn5; obtain ⟨A5, c5, e5, _, _, _, _⟩ := hn5.bs.is; rw [e5] at hn5 ⊢; have HX5 := Lib.hid (HXB.out.trans hn5.ext); have HC5 := Lib.hid (Rd.ext HCB.out hn5.ext); have HD5 := Lib.hid hn5.bs; clear hn5 e5; have TG : True := trivial)) | (go_at_call 71; clear TG; go_must (refine (CH.out _ _ _ _ (HX5.out.trans ((Ext.refl w5).alloc _)) (Rss.two w5 _ _ C D HC5.out HD5.out) (.inl rfl)).mono ?_; rintro e w6 ⟨s, t, rfl, hr6, hx6⟩; have HX6 := Lib.hid (HX5.out.trans (((Ext.refl w5).alloc _).trans hx6)); have HC6 := Lib.hid (Rd.ext HC5.out (((Ext.refl w5).alloc _).trans hx6)); have HD56 := Lib.hid (Rd.ext HD5.out (((Ext.refl w5).alloc _).trans hx6)); have HY6 := Lib.hid hr6; clear hr6 hx6; have TH : True := trivial)) | (clear TH; refine wpl_store68 rfl _ _ rfl w6.heap.size _ _ _ _ (.int .u64 0) (.int .i64 0) (.slice none 0 0) (.slice none 0 0) rfl rfl (seRow_one HY6.out) (heap_alloc_last w6 _) ?_; intro w7 h7 hu7; have hx7 : Ext w6 w7 := ((Ext.refl w6).alloc _).upd_new hu7 (Nat.le_refl _); have HX7 := Lib.hid (HX6.out.trans hx7); have HC7 := Lib.hid (Rd.ext HC6.out hx7); have HD7 := Lib.hid (Rd.ext HD56.out hx7); have HY7 := Lib.hid (HY6.out.ext hx7); have HG15 : Hid (At68 w7 w6.heap.size (seRow (Se0))) := Lib.hid h7; clear h7 hu7 hx7; have TI : True := trivial) | (go_at_call 71; clear TI; go_must (refine (CH.out _ _ _ _ (HX7.out.trans ((Ext.refl w7).alloc _)) (Rss.three w7 _ _ _ D [] C HD7.out (Rd.nil w7 1) HC7.out) (.inr rfl)).mono ?_; rintro e w8 ⟨s', t', rfl, hr8, hx8⟩; have HX8 := Lib.hid (HX7.out.trans (((Ext.refl w7).alloc _).trans hx8)); have HY8 := Lib.hid (HY7.out.ext (((Ext.refl w7).alloc _).trans hx8)); have HZ8 := Lib.hid hr8; have HG158 := Lib.hid (HG15.out.ext (((Ext.refl w7).alloc _).trans hx8)); clear hr8 hx8; have TJ : True := trivial)) | (clear TJ; refine wpl_store68 rfl _ _ rfl w8.heap.size _ _ _ _ (.int .u64 0) (.int .i64 0) (.slice none 0 0) (.slice none 0 0) rfl rfl (seRow_one HZ8.out) (heap_alloc_last w8 _) ?_; intro w9 h9 hu9; have hx9 : Ext w8 w9 := ((Ext.refl w8).alloc _).upd_new hu9 (Nat.le_refl _); have HX99 := Lib.hid (HX8.out.trans hx9); have HY9 := Lib.hid (HY8.out.ext hx9); have HZ9 := Lib.hid (HZ8.out.ext hx9); have HG159 := Lib.hid (HG158.out.ext hx9); have HG17 : Hid (At68 w9 w8.heap.size (seRow (Se0))) := Lib.hid h9; clear h9 hu9 hx9; have TK : True := trivial) | (clear TK; refine wpl_v ?_ _ (exec_load68 (.tmp 15) rfl w6.heap.size rfl _ _ _ _ _ HG159.out) ?_; rfl; have TM : True := trivial) | (clear TM; refine wpl_v ?_ _ (exec_load68 (.tmp 17) rfl w8.heap.size rfl _ _ _ _ _ HG17.out) ?_; rfl) | (go_at_call 66; go_must (refine (SS.out s t s' t' _ HY9.out HZ9.out).mono ?_; rintro e wa ⟨rfl, hxa⟩; have HXAA := Lib.hid (HX99.out.trans hxa); have hgaa := HG159.out.ext hxa; have hcn : wa.cell? ⟨w6.heap.size, 0, none⟩ = some (.int .u64 (0)) := (by rw [cell_of_row _ _ _ _ _ _ hgaa]; rfl); have hsn := hgaa.lt; clear hxa hgaa)))
  all_goals
    go_ret
    exact ⟨rfl, HXAA.out.trans HX9.out⟩
set_option maxRecDepth 100000 in
set_option maxHeartbeats 8000000 in
theorem scho_c6
    (num N : Nat) (sl : List UInt8) (su : List (List UInt8)) (sv gv : Value) (kv : Value) (key : List UInt8) (x : Se) (hxe : x = ⟨num, N, sl, su, sv, gv⟩) (a b ct : Nat) (ha : a ≤ 18446744073709551615) (hb : b ≤ 18446744073709551615) (hct : ct ≤ 18446744073709551615) (w : World) (hK : Bs w kv key) (hx : SeR w x) (hx1 : x.sl.length ≤ 140737488355328) (hx2 : x.su.length ≤ 4398046511104)
    (hk : key.length ≤ 100) (hn : x.sl.length + 32 * x.su.length ≤ 1000) (hr : rightB x.blk x.sl x.su = true) (hab : a ≠ b)
    (hmx : ¬ ct < 18446744073709551615) (g1 : a = ct)
 : Calls Try.prog 24 #[kv, x.v, .int .u64 (a : Int), .int .u64 (b : Int), .int .u64 (ct : Int)] w fun e w' => e = .returned (.bool true) ∧ Ext w w' := by
  subst hxe
  obtain ⟨N', hN', hNb, hsl, hsu⟩ := right_bounds hr
  obtain rfl : N = N' := by
    have e : (N : Int) = (N' : Int) := hN'
    omega
  have h1k : sl.length ≤ 1000 := by have e : sl.length + 32 * su.length ≤ 1000 := hn; omega
  have h2k : su.length ≤ 1000 := by have e : sl.length + 32 * su.length ≤ 1000 := hn; omega
  have hsr : ∀ n, n ≤ 18446744073709551615 → ∀ w', Ext w w' → SeR w' ⟨n, (N : Int), sl, su, sv, gv⟩ := fun n hnn w' h => ⟨(hx.ext h).sl, (hx.ext h).su, hnn, hx.lo, hx.hi⟩
  have hr' : rightB (N : Int) sl su = true := hr
  have h32 : ∀ d ∈ su, d.length = 32 := hx.su.all
  have E1 : Hid (∀ n, n ≤ 18446744073709551615 → ∀ w', Ext w w' → Calls Try.prog 64 #[kv, .agg (seRow ⟨n, (N : Int), sl, su, sv, gv⟩)] w' fun e w'' => ∃ v, e = .returned (.tuple #[v, .int .i64 0]) ∧ NewB w' v (encS key n N sl su) w'') := Lib.hid (fun n hnn w' h => encode_any kv _ key w' (Rd.ext hK h) (by omega) (hsr n hnn w' h) hr')
  obtain ⟨gC, fC1, fC2, fC3, fC4⟩ := good_enc key a N ha sl su h32 hr'
  obtain ⟨gD, fD1, fD2, fD3, fD4⟩ := good_enc key b N hb sl su h32 hr'
  have hlC := encS_length key a N sl su hsl hsu h32
  have hlD := encS_length key b N sl su hsl hsu h32
  obtain ⟨C, hC⟩ : ∃ C, encS key a N sl su = C := ⟨_, rfl⟩
  obtain ⟨D, hD⟩ : ∃ D, encS key b N sl su = D := ⟨_, rfl⟩
  rw [hC] at gC fC1 fC2 fC3 fC4 hlC
  rw [hD] at gD fD1 fD2 fD3 fD4 hlD
  have hsmall : ∀ ls, ls = [C, D] ∨ ls = [D, [], C] → ∀ b ∈ ls, b.length ≤ 1073741824 := fun ls hls b hb => by
    rcases hls with rfl | rfl
    · simp only [List.mem_cons, List.not_mem_nil, or_false] at hb
      rcases hb with rfl | rfl <;> omega
    · simp only [List.mem_cons, List.not_mem_nil, or_false] at hb
      rcases hb with rfl | rfl | rfl
      · omega
      · exact Nat.zero_le _
      · omega
  have hch : ∀ ls, ls = [C, D] ∨ ls = [D, [], C] → chosen key ct ls = some C := fun ls hls => by
    rcases hls with rfl | rfl
    · unfold chosen
      simp only [pick_two key _ a b C D gC gD fC2 fD2]
      rw [if_neg hmx]; simp [show ¬ b = ct by omega, show (a = ct) = True by simp [g1]]
    · unfold chosen
      simp only [pick_three key _ a b C D gC gD fC2 fD2]
      rw [if_neg hmx]; simp [show ¬ b = ct by omega, show (a = ct) = True by simp [g1]]
  have CH : Hid (∀ u vs ls w', Ext w w' → Rss w' u vs ls → (ls = [C, D] ∨ ls = [D, [], C]) → Calls Try.prog 71 #[kv, .int .u64 (ct : Int), u] w' fun e w'' => ∃ s t : Value, e = .returned (.tuple #[.agg (seRow (⟨a, (N : Int), sl, su, s, t⟩)), .int .i64 0]) ∧ SeR w'' (⟨a, (N : Int), sl, su, s, t⟩) ∧ Ext w' w'') := Lib.hid (fun u vs ls w' h hu hls => (choose_any kv u key ct vs ls w' (Rd.ext hK h) (by omega) hct hu (hsmall ls hls)).mono fun e w'' ⟨y, c, h1, h2, h3, h4⟩ => by
    rw [hch ls hls] at h4
    rcases h4 with ⟨b', s, t, e1, e2, e3⟩ | ⟨e1, e2, e3⟩
    · (injection e1 with e; subst e; subst e2; subst e3; have hm : mkSe C s t = (⟨a, (N : Int), sl, su, s, t⟩ : Se) := (by unfold mkSe; rw [fC1, fC2, fC3, fC4]); rw [hm] at h1 h2; exact ⟨s, t, h1, h2, h3⟩)
    · (cases e1))
  have SS : Hid (∀ (s t s' t' : Value) (w' : World), SeR w' (⟨a, (N : Int), sl, su, s, t⟩) → SeR w' (⟨a, (N : Int), sl, su, s', t'⟩) → Calls Try.prog 66 #[.agg (seRow (⟨a, (N : Int), sl, su, s, t⟩)), .agg (seRow (⟨a, (N : Int), sl, su, s', t'⟩))] w' fun e w'' => e = .returned (.bool true) ∧ Ext w' w'') := Lib.hid (fun s t s' t' w' h1 h2 => by
    have := rsame_any _ _ w' h1 h2 (show su.length ≤ _ by omega)
    rw [show sameB (⟨a, (N : Int), sl, su, s, t⟩) (⟨a, (N : Int), sl, su, s', t'⟩) = true by simp [sameB, Se0]] at this
    exact this)
  have qab : ((a : Int) == (b : Int)) = false := by
    have : ¬ (a : Int) = (b : Int) := by omega
    simpa using this
  have ⟨hwr, hwr2, q3, q4⟩ := max_facts a b ct hct hmx true false (decide_eq_true g1) (decide_eq_false (by omega)); clear g1
  have hsrC := fun n hnn => Lib.hid (hsr n hnn)
  have HEC := Lib.hid hC
  have HED := Lib.hid hD
  clear gC fC1 fC2 fC3 fC4 hlC gD fD1 fD2 fD3 fD4 hlD hC hD hch hsmall hsr h32 hr' hsl hsu hN' hab
  have hn' : sl.length + 32 * su.length ≤ 1000 := hn
  clear hn
  obtain ⟨x, hxe⟩ : ∃ x : Se, (⟨num, (N : Int), sl, su, sv, gv⟩ : Se) = x := ⟨_, rfl⟩
  rw [hxe] at hx hx1 hx2 hr
  have hn : x.sl.length + 32 * x.su.length ≤ 1000 := by rw [← hxe]; exact hn'
  have HXE := Lib.hid hxe
  clear hn'
  rw [show Calls Try.prog 24 #[kv, (⟨num, (N : Int), sl, su, sv, gv⟩ : Se).v, .int .u64 (a : Int), .int .u64 (b : Int), .int .u64 (ct : Int)] = Calls Try.prog 24 #[kv, x.v, .int .u64 (a : Int), .int .u64 (b : Int), .int .u64 (ct : Int)] by rw [hxe]]
  clear hxe
  obtain ⟨Ak, ck, rfl, _, _, _, _⟩ := hK.is
  obtain ⟨n1, hn1⟩ : ∃ n, x.sl.length + 32 * x.su.length = n := ⟨_, rfl⟩
  have hn1b : n1 ≤ 1407374883553280 := by omega
  have L1 : Hid (∀ w', Ext w w' → Calls Try.prog 61 #[.agg (seRow x)] w' fun e w'' => e = .returned (.int .i64 (n1 : Int)) ∧ Ext w' w'') := Lib.hid (fun w' h => by have := slong_any x w' (hx.ext h) (by omega) (by omega); rw [hn1] at this; exact this)
  have RA : Hid (∀ w', Ext w w' → Calls Try.prog 62 #[.agg (seRow x)] w' fun e w'' => e = .returned (.bool (rightB x.blk x.sl x.su)) ∧ Ext w' w'') := Lib.hid (fun w' h => rright_any x w' (hx.ext h) hx1)
  have HNA := Lib.hid hn1
  have HK := Lib.hid hK
  have HX := Lib.hid hx
  have hb6 : At68 (w.alloc (.cells #[.int .u64 (x.num : Int), .int .i64 x.blk, x.sv, x.gv] 68)) w.heap.size (seRow x) := heap_alloc_last w _
  have hx0 : Ext w (w.alloc (.cells #[.int .u64 (x.num : Int), .int .i64 x.blk, x.sv, x.gv] 68)) := (Ext.refl w).alloc _
  have HB6 := Lib.hid hb6
  have HX0 := Lib.hid hx0
  clear hx hn1 hb6 hx0 hK
  have HR := Lib.hid hr
  clear hr
  have HDK : Hid (decide (100 < (key.length : Int)) = false) := Lib.hid (decide_eq_false (by omega))
  have HD1 : Hid (decide (1000 < (n1 : Int)) = false) := Lib.hid (decide_eq_false (by have := HNA.out; omega))
  have TX : True := trivial
  go_enter Try.func24, Try.ntmps24
  go_wp2_with (first | (refine wpl_v ?_ _ (exec_gtr (.tmp 24) 100 3 rfl (key.length : Int) rfl rfl _ HDK.out _) ?_; rfl) | (skip; refine wpl_v ?_ _ (exec_gtr (.tmp 28) 1000 3 rfl (n1 : Int) rfl rfl _ HD1.out _) ?_; rfl) | (clear TX; refine wpl_v ?_ _ (exec_load68 (.tmp 6) rfl w.heap.size rfl _ _ _ _ _ HB6.out) ?_; rfl) | (go_at_call 61; go_must (refine (L1.out _ HX0.out).mono ?_; rintro e w2 ⟨rfl, hx2⟩; have HX2 := Lib.hid (HX0.out.trans hx2); have HC6 := Lib.hid (HB6.out.ext hx2); clear hx2; have TY : True := trivial)) | (clear TY; refine wpl_v ?_ _ (exec_load68 (.tmp 6) rfl w.heap.size rfl _ _ _ _ _ HC6.out) ?_; rfl) | (go_at_call 62; go_must (refine (RA.out _ HX2.out).mono ?_; rintro e w3 ⟨rfl, hx3⟩; rw [HR.out]; have HX3 := Lib.hid (HX2.out.trans hx3); have HD6 := Lib.hid (HC6.out.ext hx3); clear hx3; have hca : w3.cell? ⟨w.heap.size, 0, none⟩ = some (.int .u64 (x.num : Int)) := (by rw [cell_of_row _ _ _ _ _ _ HD6.out]; rfl); have hfa : w3.frozen? ⟨w.heap.size, 0, none⟩ = false := frozen_of_row _ _ _ _ _ HD6.out; have hsa := HD6.out.lt; have hua : Upd w3 (w3.setCell ⟨w.heap.size, 0, none⟩ (.int .u64 (a : Int))) w.heap.size := (Upd.of_ext (Ext.refl w3) w.heap.size).setCell (p := ⟨w.heap.size, 0, none⟩) (.inl rfl) _; have HXA := Lib.hid (HX3.out.upd_new hua (Nat.le_refl _)); have HGA : Hid (At68 (w3.setCell ⟨w.heap.size, 0, none⟩ (.int .u64 (a : Int))) w.heap.size (seRow ⟨a, (N : Int), sl, su, sv, gv⟩)) := Lib.hid (by have h := heap_setCell_same _ _ 0 _ _ (.int .u64 (a : Int)) HD6.out; rw [← HXE.out] at h; exact h); clear hua; have TC : True := trivial)) | (go_at_call 63; go_must (refine (known8_any _).mono ?_; rintro e w9 ⟨rfl, hx9⟩; have HX9 := Lib.hid hx9; clear hx9)) | (clear TC; refine wpl_load68 rfl _ rfl w.heap.size rfl _ _ _ _ HGA.out ?_; have TD : True := trivial) | (go_at_call 64; clear TD; go_must (refine (E1.out a ha _ HXA.out).mono ?_; rintro e w4 ⟨v4, rfl, hn4⟩; rw [HEC.out] at hn4; obtain ⟨A4, c4, e4, _, _, _, _⟩ := hn4.bs.is; rw [e4] at hn4 ⊢; have HX4 := Lib.hid (HXA.out.trans hn4.ext); have hg4 := HGA.out.ext hn4.ext; have hca4 : w4.cell? ⟨w.heap.size, 0, none⟩ = some (.int .u64 (a : Int)) := (by rw [cell_of_row _ _ _ _ _ _ hg4]; rfl); have hfa4 : w4.frozen? ⟨w.heap.size, 0, none⟩ = false := frozen_of_row _ _ _ _ _ hg4; have hsa4 := hg4.lt; have hua : Upd w4 (w4.setCell ⟨w.heap.size, 0, none⟩ (.int .u64 (b : Int))) w.heap.size := (Upd.of_ext (Ext.refl w4) w.heap.size).setCell (p := ⟨w.heap.size, 0, none⟩) (.inl rfl) _; have HXB := Lib.hid (HX4.out.upd_new hua (Nat.le_refl _)); have HGB : Hid (At68 (w4.setCell ⟨w.heap.size, 0, none⟩ (.int .u64 (b : Int))) w.heap.size (seRow ⟨b, (N : Int), sl, su, sv, gv⟩)) := Lib.hid (heap_setCell_same _ _ 0 _ _ (.int .u64 (b : Int)) hg4); have HCB := Lib.hid (Own.rd (Own.upd68 hn4.own hua hg4 (by decide))); clear hua hg4 hn4 e4; have TE : True := trivial)) | (clear TE; refine wpl_load68 rfl _ rfl w.heap.size rfl _ _ _ _ HGB.out ?_; have TF : True := trivial) | (go_at_call 64; clear TF; go_must (refine (E1.out b hb _ HXB.out).mono ?_; rintro e w5 ⟨v5, rfl, hn5⟩; rw [HED.out] at hn5; obtain ⟨A5, c5, e5, _, _, _, _⟩ := hn5.bs.is; rw [e5] at hn5 ⊢; have HX5 := Lib.hid (HXB.out.trans hn5.ext); have HC5 := Lib.hid (Rd.ext HCB.out hn5.ext); have HD5 := Lib.hid hn5.bs; clear hn5 e5; have TG : True := trivial)) | (go_at_call 71; clear TG; go_must (refine (CH.out _ _ _ _ (HX5.out.trans ((Ext.refl w5).alloc _)) (Rss.two w5 _ _ C D HC5.out HD5.out) (.inl rfl)).mono ?_; rintro e w6 ⟨s, t, rfl, hr6, hx6⟩; have HX6 := Lib.hid (HX5.out.trans (((Ext.refl w5).alloc _).trans hx6)); have HC6 := Lib.hid (Rd.ext HC5.out (((Ext.refl w5).alloc _).trans hx6)); have HD56 := Lib.hid (Rd.ext HD5.out (((Ext.refl w5).alloc _).trans hx6)); have HY6 := Lib.hid hr6; clear hr6 hx6; have TH : True := trivial)) | (clear TH; refine wpl_store68 rfl _ _ rfl w6.heap.size _ _ _ _ (.int .u64 0) (.int .i64 0) (.slice none 0 0) (.slice none 0 0) rfl rfl (seRow_one HY6.out) (heap_alloc_last w6 _) ?_; intro w7 h7 hu7; have hx7 : Ext w6 w7 := ((Ext.refl w6).alloc _).upd_new hu7 (Nat.le_refl _); have HX7 := Lib.hid (HX6.out.trans hx7); have HC7 := Lib.hid (Rd.ext HC6.out hx7); have HD7 := Lib.hid (Rd.ext HD56.out hx7); have HY7 := Lib.hid (HY6.out.ext hx7); have HG15 : Hid (At68 w7 w6.heap.size (seRow (⟨a, (N : Int), sl, su, s, t⟩))) := Lib.hid h7; clear h7 hu7 hx7; have TI : True := trivial) | (go_at_call 71; clear TI; go_must (refine (CH.out _ _ _ _ (HX7.out.trans ((Ext.refl w7).alloc _)) (Rss.three w7 _ _ _ D [] C HD7.out (Rd.nil w7 1) HC7.out) (.inr rfl)).mono ?_; rintro e w8 ⟨s', t', rfl, hr8, hx8⟩; have HX8 := Lib.hid (HX7.out.trans (((Ext.refl w7).alloc _).trans hx8)); have HY8 := Lib.hid (HY7.out.ext (((Ext.refl w7).alloc _).trans hx8)); have HZ8 := Lib.hid hr8; have HG158 := Lib.hid (HG15.out.ext (((Ext.refl w7).alloc _).trans hx8)); clear hr8 hx8; have TJ : True := trivial)) | (clear TJ; refine wpl_store68 rfl _ _ rfl w8.heap.size _ _ _ _ (.int .u64 0) (.int .i64 0) (.slice none 0 0) (.slice none 0 0) rfl rfl (seRow_one HZ8.out) (heap_alloc_last w8 _) ?_; intro w9 h9 hu9; have hx9 : Ext w8 w9 := ((Ext.refl w8).alloc _).upd_new hu9 (Nat.le_refl _); have HX99 := Lib.hid (HX8.out.trans hx9); have HY9 := Lib.hid (HY8.out.ext hx9); have HZ9 := Lib.hid (HZ8.out.ext hx9); have HG159 := Lib.hid (HG158.out.ext hx9); have HG17 : Hid (At68 w9 w8.heap.size (seRow (⟨a, (N : Int), sl, su, s', t'⟩))) := Lib.hid h9; clear h9 hu9 hx9; have TK : True := trivial) | (clear TK; refine wpl_v ?_ _ (exec_load68 (.tmp 15) rfl w6.heap.size rfl _ _ _ _ _ HG159.out) ?_; rfl; have TM : True := trivial) | (clear TM; refine wpl_v ?_ _ (exec_load68 (.tmp 17) rfl w8.heap.size rfl _ _ _ _ _ HG17.out) ?_; rfl) | (go_at_call 66; go_must (refine (SS.out s t s' t' _ HY9.out HZ9.out).mono ?_; rintro e wa ⟨rfl, hxa⟩; have HXAA := Lib.hid (HX99.out.trans hxa); have hgaa := HG159.out.ext hxa; have hcn : wa.cell? ⟨w6.heap.size, 0, none⟩ = some (.int .u64 (a : Int)) := (by rw [cell_of_row _ _ _ _ _ _ hgaa]; rfl); have hsn := hgaa.lt; clear hxa hgaa)))
  all_goals
    go_ret
    exact ⟨rfl, HXAA.out.trans HX9.out⟩
set_option maxRecDepth 100000 in
set_option maxHeartbeats 8000000 in
theorem scho_c7
    (num N : Nat) (sl : List UInt8) (su : List (List UInt8)) (sv gv : Value) (kv : Value) (key : List UInt8) (x : Se) (hxe : x = ⟨num, N, sl, su, sv, gv⟩) (a b ct : Nat) (ha : a ≤ 18446744073709551615) (hb : b ≤ 18446744073709551615) (hct : ct ≤ 18446744073709551615) (w : World) (hK : Bs w kv key) (hx : SeR w x) (hx1 : x.sl.length ≤ 140737488355328) (hx2 : x.su.length ≤ 4398046511104)
    (hk : key.length ≤ 100) (hn : x.sl.length + 32 * x.su.length ≤ 1000) (hr : rightB x.blk x.sl x.su = true) (hab : a ≠ b)
    (hmx : ¬ ct < 18446744073709551615) (g1 : b = ct)
 : Calls Try.prog 24 #[kv, x.v, .int .u64 (a : Int), .int .u64 (b : Int), .int .u64 (ct : Int)] w fun e w' => e = .returned (.bool true) ∧ Ext w w' := by
  subst hxe
  obtain ⟨N', hN', hNb, hsl, hsu⟩ := right_bounds hr
  obtain rfl : N = N' := by
    have e : (N : Int) = (N' : Int) := hN'
    omega
  have h1k : sl.length ≤ 1000 := by have e : sl.length + 32 * su.length ≤ 1000 := hn; omega
  have h2k : su.length ≤ 1000 := by have e : sl.length + 32 * su.length ≤ 1000 := hn; omega
  have hsr : ∀ n, n ≤ 18446744073709551615 → ∀ w', Ext w w' → SeR w' ⟨n, (N : Int), sl, su, sv, gv⟩ := fun n hnn w' h => ⟨(hx.ext h).sl, (hx.ext h).su, hnn, hx.lo, hx.hi⟩
  have hr' : rightB (N : Int) sl su = true := hr
  have h32 : ∀ d ∈ su, d.length = 32 := hx.su.all
  have E1 : Hid (∀ n, n ≤ 18446744073709551615 → ∀ w', Ext w w' → Calls Try.prog 64 #[kv, .agg (seRow ⟨n, (N : Int), sl, su, sv, gv⟩)] w' fun e w'' => ∃ v, e = .returned (.tuple #[v, .int .i64 0]) ∧ NewB w' v (encS key n N sl su) w'') := Lib.hid (fun n hnn w' h => encode_any kv _ key w' (Rd.ext hK h) (by omega) (hsr n hnn w' h) hr')
  obtain ⟨gC, fC1, fC2, fC3, fC4⟩ := good_enc key a N ha sl su h32 hr'
  obtain ⟨gD, fD1, fD2, fD3, fD4⟩ := good_enc key b N hb sl su h32 hr'
  have hlC := encS_length key a N sl su hsl hsu h32
  have hlD := encS_length key b N sl su hsl hsu h32
  obtain ⟨C, hC⟩ : ∃ C, encS key a N sl su = C := ⟨_, rfl⟩
  obtain ⟨D, hD⟩ : ∃ D, encS key b N sl su = D := ⟨_, rfl⟩
  rw [hC] at gC fC1 fC2 fC3 fC4 hlC
  rw [hD] at gD fD1 fD2 fD3 fD4 hlD
  have hsmall : ∀ ls, ls = [C, D] ∨ ls = [D, [], C] → ∀ b ∈ ls, b.length ≤ 1073741824 := fun ls hls b hb => by
    rcases hls with rfl | rfl
    · simp only [List.mem_cons, List.not_mem_nil, or_false] at hb
      rcases hb with rfl | rfl <;> omega
    · simp only [List.mem_cons, List.not_mem_nil, or_false] at hb
      rcases hb with rfl | rfl | rfl
      · omega
      · exact Nat.zero_le _
      · omega
  have hch : ∀ ls, ls = [C, D] ∨ ls = [D, [], C] → chosen key ct ls = some D := fun ls hls => by
    rcases hls with rfl | rfl
    · unfold chosen
      simp only [pick_two key _ a b C D gC gD fC2 fD2]
      rw [if_neg hmx]; simp [show ¬ a = ct by omega, show (b = ct) = True by simp [g1]]
    · unfold chosen
      simp only [pick_three key _ a b C D gC gD fC2 fD2]
      rw [if_neg hmx]; simp [show ¬ a = ct by omega, show (b = ct) = True by simp [g1]]
  have CH : Hid (∀ u vs ls w', Ext w w' → Rss w' u vs ls → (ls = [C, D] ∨ ls = [D, [], C]) → Calls Try.prog 71 #[kv, .int .u64 (ct : Int), u] w' fun e w'' => ∃ s t : Value, e = .returned (.tuple #[.agg (seRow (⟨b, (N : Int), sl, su, s, t⟩)), .int .i64 0]) ∧ SeR w'' (⟨b, (N : Int), sl, su, s, t⟩) ∧ Ext w' w'') := Lib.hid (fun u vs ls w' h hu hls => (choose_any kv u key ct vs ls w' (Rd.ext hK h) (by omega) hct hu (hsmall ls hls)).mono fun e w'' ⟨y, c, h1, h2, h3, h4⟩ => by
    rw [hch ls hls] at h4
    rcases h4 with ⟨b', s, t, e1, e2, e3⟩ | ⟨e1, e2, e3⟩
    · (injection e1 with e; subst e; subst e2; subst e3; have hm : mkSe D s t = (⟨b, (N : Int), sl, su, s, t⟩ : Se) := (by unfold mkSe; rw [fD1, fD2, fD3, fD4]); rw [hm] at h1 h2; exact ⟨s, t, h1, h2, h3⟩)
    · (cases e1))
  have SS : Hid (∀ (s t s' t' : Value) (w' : World), SeR w' (⟨b, (N : Int), sl, su, s, t⟩) → SeR w' (⟨b, (N : Int), sl, su, s', t'⟩) → Calls Try.prog 66 #[.agg (seRow (⟨b, (N : Int), sl, su, s, t⟩)), .agg (seRow (⟨b, (N : Int), sl, su, s', t'⟩))] w' fun e w'' => e = .returned (.bool true) ∧ Ext w' w'') := Lib.hid (fun s t s' t' w' h1 h2 => by
    have := rsame_any _ _ w' h1 h2 (show su.length ≤ _ by omega)
    rw [show sameB (⟨b, (N : Int), sl, su, s, t⟩) (⟨b, (N : Int), sl, su, s', t'⟩) = true by simp [sameB, Se0]] at this
    exact this)
  have qab : ((a : Int) == (b : Int)) = false := by
    have : ¬ (a : Int) = (b : Int) := by omega
    simpa using this
  have ⟨hwr, hwr2, q3, q4⟩ := max_facts a b ct hct hmx false true (decide_eq_false (by omega)) (decide_eq_true g1); clear g1
  have hsrC := fun n hnn => Lib.hid (hsr n hnn)
  have HEC := Lib.hid hC
  have HED := Lib.hid hD
  clear gC fC1 fC2 fC3 fC4 hlC gD fD1 fD2 fD3 fD4 hlD hC hD hch hsmall hsr h32 hr' hsl hsu hN' hab
  have hn' : sl.length + 32 * su.length ≤ 1000 := hn
  clear hn
  obtain ⟨x, hxe⟩ : ∃ x : Se, (⟨num, (N : Int), sl, su, sv, gv⟩ : Se) = x := ⟨_, rfl⟩
  rw [hxe] at hx hx1 hx2 hr
  have hn : x.sl.length + 32 * x.su.length ≤ 1000 := by rw [← hxe]; exact hn'
  have HXE := Lib.hid hxe
  clear hn'
  rw [show Calls Try.prog 24 #[kv, (⟨num, (N : Int), sl, su, sv, gv⟩ : Se).v, .int .u64 (a : Int), .int .u64 (b : Int), .int .u64 (ct : Int)] = Calls Try.prog 24 #[kv, x.v, .int .u64 (a : Int), .int .u64 (b : Int), .int .u64 (ct : Int)] by rw [hxe]]
  clear hxe
  obtain ⟨Ak, ck, rfl, _, _, _, _⟩ := hK.is
  obtain ⟨n1, hn1⟩ : ∃ n, x.sl.length + 32 * x.su.length = n := ⟨_, rfl⟩
  have hn1b : n1 ≤ 1407374883553280 := by omega
  have L1 : Hid (∀ w', Ext w w' → Calls Try.prog 61 #[.agg (seRow x)] w' fun e w'' => e = .returned (.int .i64 (n1 : Int)) ∧ Ext w' w'') := Lib.hid (fun w' h => by have := slong_any x w' (hx.ext h) (by omega) (by omega); rw [hn1] at this; exact this)
  have RA : Hid (∀ w', Ext w w' → Calls Try.prog 62 #[.agg (seRow x)] w' fun e w'' => e = .returned (.bool (rightB x.blk x.sl x.su)) ∧ Ext w' w'') := Lib.hid (fun w' h => rright_any x w' (hx.ext h) hx1)
  have HNA := Lib.hid hn1
  have HK := Lib.hid hK
  have HX := Lib.hid hx
  have hb6 : At68 (w.alloc (.cells #[.int .u64 (x.num : Int), .int .i64 x.blk, x.sv, x.gv] 68)) w.heap.size (seRow x) := heap_alloc_last w _
  have hx0 : Ext w (w.alloc (.cells #[.int .u64 (x.num : Int), .int .i64 x.blk, x.sv, x.gv] 68)) := (Ext.refl w).alloc _
  have HB6 := Lib.hid hb6
  have HX0 := Lib.hid hx0
  clear hx hn1 hb6 hx0 hK
  have HR := Lib.hid hr
  clear hr
  have HDK : Hid (decide (100 < (key.length : Int)) = false) := Lib.hid (decide_eq_false (by omega))
  have HD1 : Hid (decide (1000 < (n1 : Int)) = false) := Lib.hid (decide_eq_false (by have := HNA.out; omega))
  have TX : True := trivial
  go_enter Try.func24, Try.ntmps24
  go_wp2_with (first | (refine wpl_v ?_ _ (exec_gtr (.tmp 24) 100 3 rfl (key.length : Int) rfl rfl _ HDK.out _) ?_; rfl) | (skip; refine wpl_v ?_ _ (exec_gtr (.tmp 28) 1000 3 rfl (n1 : Int) rfl rfl _ HD1.out _) ?_; rfl) | (clear TX; refine wpl_v ?_ _ (exec_load68 (.tmp 6) rfl w.heap.size rfl _ _ _ _ _ HB6.out) ?_; rfl) | (go_at_call 61; go_must (refine (L1.out _ HX0.out).mono ?_; rintro e w2 ⟨rfl, hx2⟩; have HX2 := Lib.hid (HX0.out.trans hx2); have HC6 := Lib.hid (HB6.out.ext hx2); clear hx2; have TY : True := trivial)) | (clear TY; refine wpl_v ?_ _ (exec_load68 (.tmp 6) rfl w.heap.size rfl _ _ _ _ _ HC6.out) ?_; rfl) | (go_at_call 62; go_must (refine (RA.out _ HX2.out).mono ?_; rintro e w3 ⟨rfl, hx3⟩; rw [HR.out]; have HX3 := Lib.hid (HX2.out.trans hx3); have HD6 := Lib.hid (HC6.out.ext hx3); clear hx3; have hca : w3.cell? ⟨w.heap.size, 0, none⟩ = some (.int .u64 (x.num : Int)) := (by rw [cell_of_row _ _ _ _ _ _ HD6.out]; rfl); have hfa : w3.frozen? ⟨w.heap.size, 0, none⟩ = false := frozen_of_row _ _ _ _ _ HD6.out; have hsa := HD6.out.lt; have hua : Upd w3 (w3.setCell ⟨w.heap.size, 0, none⟩ (.int .u64 (a : Int))) w.heap.size := (Upd.of_ext (Ext.refl w3) w.heap.size).setCell (p := ⟨w.heap.size, 0, none⟩) (.inl rfl) _; have HXA := Lib.hid (HX3.out.upd_new hua (Nat.le_refl _)); have HGA : Hid (At68 (w3.setCell ⟨w.heap.size, 0, none⟩ (.int .u64 (a : Int))) w.heap.size (seRow ⟨a, (N : Int), sl, su, sv, gv⟩)) := Lib.hid (by have h := heap_setCell_same _ _ 0 _ _ (.int .u64 (a : Int)) HD6.out; rw [← HXE.out] at h; exact h); clear hua; have TC : True := trivial)) | (go_at_call 63; go_must (refine (known8_any _).mono ?_; rintro e w9 ⟨rfl, hx9⟩; have HX9 := Lib.hid hx9; clear hx9)) | (clear TC; refine wpl_load68 rfl _ rfl w.heap.size rfl _ _ _ _ HGA.out ?_; have TD : True := trivial) | (go_at_call 64; clear TD; go_must (refine (E1.out a ha _ HXA.out).mono ?_; rintro e w4 ⟨v4, rfl, hn4⟩; rw [HEC.out] at hn4; obtain ⟨A4, c4, e4, _, _, _, _⟩ := hn4.bs.is; rw [e4] at hn4 ⊢; have HX4 := Lib.hid (HXA.out.trans hn4.ext); have hg4 := HGA.out.ext hn4.ext; have hca4 : w4.cell? ⟨w.heap.size, 0, none⟩ = some (.int .u64 (a : Int)) := (by rw [cell_of_row _ _ _ _ _ _ hg4]; rfl); have hfa4 : w4.frozen? ⟨w.heap.size, 0, none⟩ = false := frozen_of_row _ _ _ _ _ hg4; have hsa4 := hg4.lt; have hua : Upd w4 (w4.setCell ⟨w.heap.size, 0, none⟩ (.int .u64 (b : Int))) w.heap.size := (Upd.of_ext (Ext.refl w4) w.heap.size).setCell (p := ⟨w.heap.size, 0, none⟩) (.inl rfl) _; have HXB := Lib.hid (HX4.out.upd_new hua (Nat.le_refl _)); have HGB : Hid (At68 (w4.setCell ⟨w.heap.size, 0, none⟩ (.int .u64 (b : Int))) w.heap.size (seRow ⟨b, (N : Int), sl, su, sv, gv⟩)) := Lib.hid (heap_setCell_same _ _ 0 _ _ (.int .u64 (b : Int)) hg4); have HCB := Lib.hid (Own.rd (Own.upd68 hn4.own hua hg4 (by decide))); clear hua hg4 hn4 e4; have TE : True := trivial)) | (clear TE; refine wpl_load68 rfl _ rfl w.heap.size rfl _ _ _ _ HGB.out ?_; have TF : True := trivial) | (go_at_call 64; clear TF; go_must (refine (E1.out b hb _ HXB.out).mono ?_; rintro e w5 ⟨v5, rfl, hn5⟩; rw [HED.out] at hn5; obtain ⟨A5, c5, e5, _, _, _, _⟩ := hn5.bs.is; rw [e5] at hn5 ⊢; have HX5 := Lib.hid (HXB.out.trans hn5.ext); have HC5 := Lib.hid (Rd.ext HCB.out hn5.ext); have HD5 := Lib.hid hn5.bs; clear hn5 e5; have TG : True := trivial)) | (go_at_call 71; clear TG; go_must (refine (CH.out _ _ _ _ (HX5.out.trans ((Ext.refl w5).alloc _)) (Rss.two w5 _ _ C D HC5.out HD5.out) (.inl rfl)).mono ?_; rintro e w6 ⟨s, t, rfl, hr6, hx6⟩; have HX6 := Lib.hid (HX5.out.trans (((Ext.refl w5).alloc _).trans hx6)); have HC6 := Lib.hid (Rd.ext HC5.out (((Ext.refl w5).alloc _).trans hx6)); have HD56 := Lib.hid (Rd.ext HD5.out (((Ext.refl w5).alloc _).trans hx6)); have HY6 := Lib.hid hr6; clear hr6 hx6; have TH : True := trivial)) | (clear TH; refine wpl_store68 rfl _ _ rfl w6.heap.size _ _ _ _ (.int .u64 0) (.int .i64 0) (.slice none 0 0) (.slice none 0 0) rfl rfl (seRow_one HY6.out) (heap_alloc_last w6 _) ?_; intro w7 h7 hu7; have hx7 : Ext w6 w7 := ((Ext.refl w6).alloc _).upd_new hu7 (Nat.le_refl _); have HX7 := Lib.hid (HX6.out.trans hx7); have HC7 := Lib.hid (Rd.ext HC6.out hx7); have HD7 := Lib.hid (Rd.ext HD56.out hx7); have HY7 := Lib.hid (HY6.out.ext hx7); have HG15 : Hid (At68 w7 w6.heap.size (seRow (⟨b, (N : Int), sl, su, s, t⟩))) := Lib.hid h7; clear h7 hu7 hx7; have TI : True := trivial) | (go_at_call 71; clear TI; go_must (refine (CH.out _ _ _ _ (HX7.out.trans ((Ext.refl w7).alloc _)) (Rss.three w7 _ _ _ D [] C HD7.out (Rd.nil w7 1) HC7.out) (.inr rfl)).mono ?_; rintro e w8 ⟨s', t', rfl, hr8, hx8⟩; have HX8 := Lib.hid (HX7.out.trans (((Ext.refl w7).alloc _).trans hx8)); have HY8 := Lib.hid (HY7.out.ext (((Ext.refl w7).alloc _).trans hx8)); have HZ8 := Lib.hid hr8; have HG158 := Lib.hid (HG15.out.ext (((Ext.refl w7).alloc _).trans hx8)); clear hr8 hx8; have TJ : True := trivial)) | (clear TJ; refine wpl_store68 rfl _ _ rfl w8.heap.size _ _ _ _ (.int .u64 0) (.int .i64 0) (.slice none 0 0) (.slice none 0 0) rfl rfl (seRow_one HZ8.out) (heap_alloc_last w8 _) ?_; intro w9 h9 hu9; have hx9 : Ext w8 w9 := ((Ext.refl w8).alloc _).upd_new hu9 (Nat.le_refl _); have HX99 := Lib.hid (HX8.out.trans hx9); have HY9 := Lib.hid (HY8.out.ext hx9); have HZ9 := Lib.hid (HZ8.out.ext hx9); have HG159 := Lib.hid (HG158.out.ext hx9); have HG17 : Hid (At68 w9 w8.heap.size (seRow (⟨b, (N : Int), sl, su, s', t'⟩))) := Lib.hid h9; clear h9 hu9 hx9; have TK : True := trivial) | (clear TK; refine wpl_v ?_ _ (exec_load68 (.tmp 15) rfl w6.heap.size rfl _ _ _ _ _ HG159.out) ?_; rfl; have TM : True := trivial) | (clear TM; refine wpl_v ?_ _ (exec_load68 (.tmp 17) rfl w8.heap.size rfl _ _ _ _ _ HG17.out) ?_; rfl) | (go_at_call 66; go_must (refine (SS.out s t s' t' _ HY9.out HZ9.out).mono ?_; rintro e wa ⟨rfl, hxa⟩; have HXAA := Lib.hid (HX99.out.trans hxa); have hgaa := HG159.out.ext hxa; have hcn : wa.cell? ⟨w6.heap.size, 0, none⟩ = some (.int .u64 (b : Int)) := (by rw [cell_of_row _ _ _ _ _ _ hgaa]; rfl); have hsn := hgaa.lt; clear hxa hgaa)))
  all_goals
    go_ret
    exact ⟨rfl, HXAA.out.trans HX9.out⟩
set_option maxRecDepth 100000 in
set_option maxHeartbeats 8000000 in
theorem scho_c8
    (num N : Nat) (sl : List UInt8) (su : List (List UInt8)) (sv gv : Value) (kv : Value) (key : List UInt8) (x : Se) (hxe : x = ⟨num, N, sl, su, sv, gv⟩) (a b ct : Nat) (ha : a ≤ 18446744073709551615) (hb : b ≤ 18446744073709551615) (hct : ct ≤ 18446744073709551615) (w : World) (hK : Bs w kv key) (hx : SeR w x) (hx1 : x.sl.length ≤ 140737488355328) (hx2 : x.su.length ≤ 4398046511104)
    (hk : key.length ≤ 100) (hn : x.sl.length + 32 * x.su.length ≤ 1000) (hr : rightB x.blk x.sl x.su = true) (hab : a ≠ b)
    (hmx : ¬ ct < 18446744073709551615) (g1 : ¬ a = ct) (g2 : ¬ b = ct)
 : Calls Try.prog 24 #[kv, x.v, .int .u64 (a : Int), .int .u64 (b : Int), .int .u64 (ct : Int)] w fun e w' => e = .returned (.bool true) ∧ Ext w w' := by
  subst hxe
  obtain ⟨N', hN', hNb, hsl, hsu⟩ := right_bounds hr
  obtain rfl : N = N' := by
    have e : (N : Int) = (N' : Int) := hN'
    omega
  have h1k : sl.length ≤ 1000 := by have e : sl.length + 32 * su.length ≤ 1000 := hn; omega
  have h2k : su.length ≤ 1000 := by have e : sl.length + 32 * su.length ≤ 1000 := hn; omega
  have hsr : ∀ n, n ≤ 18446744073709551615 → ∀ w', Ext w w' → SeR w' ⟨n, (N : Int), sl, su, sv, gv⟩ := fun n hnn w' h => ⟨(hx.ext h).sl, (hx.ext h).su, hnn, hx.lo, hx.hi⟩
  have hr' : rightB (N : Int) sl su = true := hr
  have h32 : ∀ d ∈ su, d.length = 32 := hx.su.all
  have E1 : Hid (∀ n, n ≤ 18446744073709551615 → ∀ w', Ext w w' → Calls Try.prog 64 #[kv, .agg (seRow ⟨n, (N : Int), sl, su, sv, gv⟩)] w' fun e w'' => ∃ v, e = .returned (.tuple #[v, .int .i64 0]) ∧ NewB w' v (encS key n N sl su) w'') := Lib.hid (fun n hnn w' h => encode_any kv _ key w' (Rd.ext hK h) (by omega) (hsr n hnn w' h) hr')
  obtain ⟨gC, fC1, fC2, fC3, fC4⟩ := good_enc key a N ha sl su h32 hr'
  obtain ⟨gD, fD1, fD2, fD3, fD4⟩ := good_enc key b N hb sl su h32 hr'
  have hlC := encS_length key a N sl su hsl hsu h32
  have hlD := encS_length key b N sl su hsl hsu h32
  obtain ⟨C, hC⟩ : ∃ C, encS key a N sl su = C := ⟨_, rfl⟩
  obtain ⟨D, hD⟩ : ∃ D, encS key b N sl su = D := ⟨_, rfl⟩
  rw [hC] at gC fC1 fC2 fC3 fC4 hlC
  rw [hD] at gD fD1 fD2 fD3 fD4 hlD
  have hsmall : ∀ ls, ls = [C, D] ∨ ls = [D, [], C] → ∀ b ∈ ls, b.length ≤ 1073741824 := fun ls hls b hb => by
    rcases hls with rfl | rfl
    · simp only [List.mem_cons, List.not_mem_nil, or_false] at hb
      rcases hb with rfl | rfl <;> omega
    · simp only [List.mem_cons, List.not_mem_nil, or_false] at hb
      rcases hb with rfl | rfl | rfl
      · omega
      · exact Nat.zero_le _
      · omega
  have hch : ∀ ls, ls = [C, D] ∨ ls = [D, [], C] → chosen key ct ls = none := fun ls hls => by
    rcases hls with rfl | rfl
    · unfold chosen
      simp only [pick_two key _ a b C D gC gD fC2 fD2]
      rw [if_neg hmx]; simp [g1, g2]
    · unfold chosen
      simp only [pick_three key _ a b C D gC gD fC2 fD2]
      rw [if_neg hmx]; simp [g1, g2]
  have CH : Hid (∀ u vs ls w', Ext w w' → Rss w' u vs ls → (ls = [C, D] ∨ ls = [D, [], C]) → Calls Try.prog 71 #[kv, .int .u64 (ct : Int), u] w' fun e w'' => ∃ s t : Value, e = .returned (.tuple #[.agg (seRow (Se0)), .int .i64 5]) ∧ SeR w'' (Se0) ∧ Ext w' w'') := Lib.hid (fun u vs ls w' h hu hls => (choose_any kv u key ct vs ls w' (Rd.ext hK h) (by omega) hct hu (hsmall ls hls)).mono fun e w'' ⟨y, c, h1, h2, h3, h4⟩ => by
    rw [hch ls hls] at h4
    rcases h4 with ⟨b', s, t, e1, e2, e3⟩ | ⟨e1, e2, e3⟩
    · (cases e1)
    · (subst e2; subst e3; exact ⟨Value.slice none 0 0, Value.slice none 0 0, h1, h2, h3⟩))
  have SS : Hid (∀ (s t s' t' : Value) (w' : World), SeR w' (Se0) → SeR w' (Se0) → Calls Try.prog 66 #[.agg (seRow (Se0)), .agg (seRow (Se0))] w' fun e w'' => e = .returned (.bool true) ∧ Ext w' w'') := Lib.hid (fun s t s' t' w' h1 h2 => by
    have := rsame_any _ _ w' h1 h2 (show (0 : Nat) ≤ _ by omega)
    rw [show sameB (Se0) (Se0) = true by simp [sameB, Se0]] at this
    exact this)
  have qab : ((a : Int) == (b : Int)) = false := by
    have : ¬ (a : Int) = (b : Int) := by omega
    simpa using this
  have ⟨hwr, hwr2, q3, q4⟩ := max_facts a b ct hct hmx false false (decide_eq_false (by omega)) (decide_eq_false (by omega)); clear g1
  have hsrC := fun n hnn => Lib.hid (hsr n hnn)
  have HEC := Lib.hid hC
  have HED := Lib.hid hD
  clear gC fC1 fC2 fC3 fC4 hlC gD fD1 fD2 fD3 fD4 hlD hC hD hch hsmall hsr h32 hr' hsl hsu hN' hab
  have hn' : sl.length + 32 * su.length ≤ 1000 := hn
  clear hn
  obtain ⟨x, hxe⟩ : ∃ x : Se, (⟨num, (N : Int), sl, su, sv, gv⟩ : Se) = x := ⟨_, rfl⟩
  rw [hxe] at hx hx1 hx2 hr
  have hn : x.sl.length + 32 * x.su.length ≤ 1000 := by rw [← hxe]; exact hn'
  have HXE := Lib.hid hxe
  clear hn'
  rw [show Calls Try.prog 24 #[kv, (⟨num, (N : Int), sl, su, sv, gv⟩ : Se).v, .int .u64 (a : Int), .int .u64 (b : Int), .int .u64 (ct : Int)] = Calls Try.prog 24 #[kv, x.v, .int .u64 (a : Int), .int .u64 (b : Int), .int .u64 (ct : Int)] by rw [hxe]]
  clear hxe
  obtain ⟨Ak, ck, rfl, _, _, _, _⟩ := hK.is
  obtain ⟨n1, hn1⟩ : ∃ n, x.sl.length + 32 * x.su.length = n := ⟨_, rfl⟩
  have hn1b : n1 ≤ 1407374883553280 := by omega
  have L1 : Hid (∀ w', Ext w w' → Calls Try.prog 61 #[.agg (seRow x)] w' fun e w'' => e = .returned (.int .i64 (n1 : Int)) ∧ Ext w' w'') := Lib.hid (fun w' h => by have := slong_any x w' (hx.ext h) (by omega) (by omega); rw [hn1] at this; exact this)
  have RA : Hid (∀ w', Ext w w' → Calls Try.prog 62 #[.agg (seRow x)] w' fun e w'' => e = .returned (.bool (rightB x.blk x.sl x.su)) ∧ Ext w' w'') := Lib.hid (fun w' h => rright_any x w' (hx.ext h) hx1)
  have HNA := Lib.hid hn1
  have HK := Lib.hid hK
  have HX := Lib.hid hx
  have hb6 : At68 (w.alloc (.cells #[.int .u64 (x.num : Int), .int .i64 x.blk, x.sv, x.gv] 68)) w.heap.size (seRow x) := heap_alloc_last w _
  have hx0 : Ext w (w.alloc (.cells #[.int .u64 (x.num : Int), .int .i64 x.blk, x.sv, x.gv] 68)) := (Ext.refl w).alloc _
  have HB6 := Lib.hid hb6
  have HX0 := Lib.hid hx0
  clear hx hn1 hb6 hx0 hK
  have HR := Lib.hid hr
  clear hr
  have HDK : Hid (decide (100 < (key.length : Int)) = false) := Lib.hid (decide_eq_false (by omega))
  have HD1 : Hid (decide (1000 < (n1 : Int)) = false) := Lib.hid (decide_eq_false (by have := HNA.out; omega))
  have TX : True := trivial
  go_enter Try.func24, Try.ntmps24
  go_wp2_with (first | (refine wpl_v ?_ _ (exec_gtr (.tmp 24) 100 3 rfl (key.length : Int) rfl rfl _ HDK.out _) ?_; rfl) | (skip; refine wpl_v ?_ _ (exec_gtr (.tmp 28) 1000 3 rfl (n1 : Int) rfl rfl _ HD1.out _) ?_; rfl) | (clear TX; refine wpl_v ?_ _ (exec_load68 (.tmp 6) rfl w.heap.size rfl _ _ _ _ _ HB6.out) ?_; rfl) | (go_at_call 61; go_must (refine (L1.out _ HX0.out).mono ?_; rintro e w2 ⟨rfl, hx2⟩; have HX2 := Lib.hid (HX0.out.trans hx2); have HC6 := Lib.hid (HB6.out.ext hx2); clear hx2; have TY : True := trivial)) | (clear TY; refine wpl_v ?_ _ (exec_load68 (.tmp 6) rfl w.heap.size rfl _ _ _ _ _ HC6.out) ?_; rfl) | (go_at_call 62; go_must (refine (RA.out _ HX2.out).mono ?_; rintro e w3 ⟨rfl, hx3⟩; rw [HR.out]; have HX3 := Lib.hid (HX2.out.trans hx3); have HD6 := Lib.hid (HC6.out.ext hx3); clear hx3; have hca : w3.cell? ⟨w.heap.size, 0, none⟩ = some (.int .u64 (x.num : Int)) := (by rw [cell_of_row _ _ _ _ _ _ HD6.out]; rfl); have hfa : w3.frozen? ⟨w.heap.size, 0, none⟩ = false := frozen_of_row _ _ _ _ _ HD6.out; have hsa := HD6.out.lt; have hua : Upd w3 (w3.setCell ⟨w.heap.size, 0, none⟩ (.int .u64 (a : Int))) w.heap.size := (Upd.of_ext (Ext.refl w3) w.heap.size).setCell (p := ⟨w.heap.size, 0, none⟩) (.inl rfl) _; have HXA := Lib.hid (HX3.out.upd_new hua (Nat.le_refl _)); have HGA : Hid (At68 (w3.setCell ⟨w.heap.size, 0, none⟩ (.int .u64 (a : Int))) w.heap.size (seRow ⟨a, (N : Int), sl, su, sv, gv⟩)) := Lib.hid (by have h := heap_setCell_same _ _ 0 _ _ (.int .u64 (a : Int)) HD6.out; rw [← HXE.out] at h; exact h); clear hua; have TC : True := trivial)) | (go_at_call 63; go_must (refine (known8_any _).mono ?_; rintro e w9 ⟨rfl, hx9⟩; have HX9 := Lib.hid hx9; clear hx9)) | (clear TC; refine wpl_load68 rfl _ rfl w.heap.size rfl _ _ _ _ HGA.out ?_; have TD : True := trivial) | (go_at_call 64; clear TD; go_must (refine (E1.out a ha _ HXA.out).mono ?_; rintro e w4 ⟨v4, rfl, hn4⟩; rw [HEC.out] at hn4; obtain ⟨A4, c4, e4, _, _, _, _⟩ := hn4.bs.is; rw [e4] at hn4 ⊢; have HX4 := Lib.hid (HXA.out.trans hn4.ext); have hg4 := HGA.out.ext hn4.ext; have hca4 : w4.cell? ⟨w.heap.size, 0, none⟩ = some (.int .u64 (a : Int)) := (by rw [cell_of_row _ _ _ _ _ _ hg4]; rfl); have hfa4 : w4.frozen? ⟨w.heap.size, 0, none⟩ = false := frozen_of_row _ _ _ _ _ hg4; have hsa4 := hg4.lt; have hua : Upd w4 (w4.setCell ⟨w.heap.size, 0, none⟩ (.int .u64 (b : Int))) w.heap.size := (Upd.of_ext (Ext.refl w4) w.heap.size).setCell (p := ⟨w.heap.size, 0, none⟩) (.inl rfl) _; have HXB := Lib.hid (HX4.out.upd_new hua (Nat.le_refl _)); have HGB : Hid (At68 (w4.setCell ⟨w.heap.size, 0, none⟩ (.int .u64 (b : Int))) w.heap.size (seRow ⟨b, (N : Int), sl, su, sv, gv⟩)) := Lib.hid (heap_setCell_same _ _ 0 _ _ (.int .u64 (b : Int)) hg4); have HCB := Lib.hid (Own.rd (Own.upd68 hn4.own hua hg4 (by decide))); clear hua hg4 hn4 e4; have TE : True := trivial)) | (clear TE; refine wpl_load68 rfl _ rfl w.heap.size rfl _ _ _ _ HGB.out ?_; have TF : True := trivial) | (go_at_call 64; clear TF; go_must (refine (E1.out b hb _ HXB.out).mono ?_; rintro e w5 ⟨v5, rfl, hn5⟩; rw [HED.out] at hn5; obtain ⟨A5, c5, e5, _, _, _, _⟩ := hn5.bs.is; rw [e5] at hn5 ⊢; have HX5 := Lib.hid (HXB.out.trans hn5.ext); have HC5 := Lib.hid (Rd.ext HCB.out hn5.ext); have HD5 := Lib.hid hn5.bs; clear hn5 e5; have TG : True := trivial)) | (go_at_call 71; clear TG; go_must (refine (CH.out _ _ _ _ (HX5.out.trans ((Ext.refl w5).alloc _)) (Rss.two w5 _ _ C D HC5.out HD5.out) (.inl rfl)).mono ?_; rintro e w6 ⟨s, t, rfl, hr6, hx6⟩; have HX6 := Lib.hid (HX5.out.trans (((Ext.refl w5).alloc _).trans hx6)); have HC6 := Lib.hid (Rd.ext HC5.out (((Ext.refl w5).alloc _).trans hx6)); have HD56 := Lib.hid (Rd.ext HD5.out (((Ext.refl w5).alloc _).trans hx6)); have HY6 := Lib.hid hr6; clear hr6 hx6; have TH : True := trivial)) | (clear TH; refine wpl_store68 rfl _ _ rfl w6.heap.size _ _ _ _ (.int .u64 0) (.int .i64 0) (.slice none 0 0) (.slice none 0 0) rfl rfl (seRow_one HY6.out) (heap_alloc_last w6 _) ?_; intro w7 h7 hu7; have hx7 : Ext w6 w7 := ((Ext.refl w6).alloc _).upd_new hu7 (Nat.le_refl _); have HX7 := Lib.hid (HX6.out.trans hx7); have HC7 := Lib.hid (Rd.ext HC6.out hx7); have HD7 := Lib.hid (Rd.ext HD56.out hx7); have HY7 := Lib.hid (HY6.out.ext hx7); have HG15 : Hid (At68 w7 w6.heap.size (seRow (Se0))) := Lib.hid h7; clear h7 hu7 hx7; have TI : True := trivial) | (go_at_call 71; clear TI; go_must (refine (CH.out _ _ _ _ (HX7.out.trans ((Ext.refl w7).alloc _)) (Rss.three w7 _ _ _ D [] C HD7.out (Rd.nil w7 1) HC7.out) (.inr rfl)).mono ?_; rintro e w8 ⟨s', t', rfl, hr8, hx8⟩; have HX8 := Lib.hid (HX7.out.trans (((Ext.refl w7).alloc _).trans hx8)); have HY8 := Lib.hid (HY7.out.ext (((Ext.refl w7).alloc _).trans hx8)); have HZ8 := Lib.hid hr8; have HG158 := Lib.hid (HG15.out.ext (((Ext.refl w7).alloc _).trans hx8)); clear hr8 hx8; have TJ : True := trivial)) | (clear TJ; refine wpl_store68 rfl _ _ rfl w8.heap.size _ _ _ _ (.int .u64 0) (.int .i64 0) (.slice none 0 0) (.slice none 0 0) rfl rfl (seRow_one HZ8.out) (heap_alloc_last w8 _) ?_; intro w9 h9 hu9; have hx9 : Ext w8 w9 := ((Ext.refl w8).alloc _).upd_new hu9 (Nat.le_refl _); have HX99 := Lib.hid (HX8.out.trans hx9); have HY9 := Lib.hid (HY8.out.ext hx9); have HZ9 := Lib.hid (HZ8.out.ext hx9); have HG159 := Lib.hid (HG158.out.ext hx9); have HG17 : Hid (At68 w9 w8.heap.size (seRow (Se0))) := Lib.hid h9; clear h9 hu9 hx9; have TK : True := trivial) | (clear TK; refine wpl_v ?_ _ (exec_load68 (.tmp 15) rfl w6.heap.size rfl _ _ _ _ _ HG159.out) ?_; rfl; have TM : True := trivial) | (clear TM; refine wpl_v ?_ _ (exec_load68 (.tmp 17) rfl w8.heap.size rfl _ _ _ _ _ HG17.out) ?_; rfl) | (go_at_call 66; go_must (refine (SS.out s t s' t' _ HY9.out HZ9.out).mono ?_; rintro e wa ⟨rfl, hxa⟩; have HXAA := Lib.hid (HX99.out.trans hxa); have hgaa := HG159.out.ext hxa; have hcn : wa.cell? ⟨w6.heap.size, 0, none⟩ = some (.int .u64 (0)) := (by rw [cell_of_row _ _ _ _ _ _ hgaa]; rfl); have hsn := hgaa.lt; clear hxa hgaa)))
  all_goals
    go_ret
    exact ⟨rfl, HXAA.out.trans HX9.out⟩
theorem scho_law (kv : Value) (key : List UInt8) (x : Se) (a b ct : Nat) (ha : a ≤ 18446744073709551615) (hb : b ≤ 18446744073709551615) (hct : ct ≤ 18446744073709551615) (w : World) (hK : Bs w kv key) (hx : SeR w x) (hx1 : x.sl.length ≤ 140737488355328) (hx2 : x.su.length ≤ 4398046511104)
 : Calls Try.prog 24 #[kv, x.v, .int .u64 (a : Int), .int .u64 (b : Int), .int .u64 (ct : Int)] w fun e w' => e = .returned (.bool true) ∧ Ext w w' := by
  by_cases hk : 100 < key.length
  · exact scho_key kv key x a b ct w hK hx hx1 hx2 hk
  by_cases hn : 1000 < x.sl.length + 32 * x.su.length
  · exact scho_big kv key x a b ct w hK hx hx1 hx2 (by omega) hn
  cases hr : rightB x.blk x.sl x.su with
  | false => exact scho_not kv key x a b ct w hK hx hx1 hx2 (by omega) (by omega) hr
  | true =>
    by_cases hab : a = b
    · exact scho_eq kv key x a b ct w hK hx hx1 hx2 (by omega) (by omega) hr hab
    obtain ⟨N, hN, _⟩ := right_bounds hr
    have hxe : x = ⟨x.num, (N : Int), x.sl, x.su, x.sv, x.gv⟩ := by
      obtain ⟨n, bl, s, u, v, g⟩ := x
      simp only at hN
      rw [hN]
    by_cases hmx : ct < 18446744073709551615
    · by_cases g1 : a = ct + 1
      · exact scho_c1 x.num N x.sl x.su x.sv x.gv kv key x hxe a b ct ha hb hct w hK hx hx1 hx2 (by omega) (by omega) hr hab hmx g1
      by_cases g2 : b = ct + 1
      · exact scho_c2 x.num N x.sl x.su x.sv x.gv kv key x hxe a b ct ha hb hct w hK hx hx1 hx2 (by omega) (by omega) hr hab hmx g2
      by_cases g3 : a = ct
      · exact scho_c3 x.num N x.sl x.su x.sv x.gv kv key x hxe a b ct ha hb hct w hK hx hx1 hx2 (by omega) (by omega) hr hab hmx g3 g2
      by_cases g4 : b = ct
      · exact scho_c4 x.num N x.sl x.su x.sv x.gv kv key x hxe a b ct ha hb hct w hK hx hx1 hx2 (by omega) (by omega) hr hab hmx g4 g1
      exact scho_c5 x.num N x.sl x.su x.sv x.gv kv key x hxe a b ct ha hb hct w hK hx hx1 hx2 (by omega) (by omega) hr hab hmx g1 g2 g3 g4
    · by_cases g3 : a = ct
      · exact scho_c6 x.num N x.sl x.su x.sv x.gv kv key x hxe a b ct ha hb hct w hK hx hx1 hx2 (by omega) (by omega) hr hab hmx g3
      by_cases g4 : b = ct
      · exact scho_c7 x.num N x.sl x.su x.sv x.gv kv key x hxe a b ct ha hb hct w hK hx hx1 hx2 (by omega) (by omega) hr hab hmx g4
      exact scho_c8 x.num N x.sl x.su x.sv x.gv kv key x hxe a b ct ha hb hct w hK hx hx1 hx2 (by omega) (by omega) hr hab hmx g3 g4
end Go.Proofs.Ytapojpjmeadabaa
end

section
/- Arguments opened: byte slices, each within the row's own reach. -/
namespace Go.Proofs.Ytapojpjmeadabaa
open Go.ChangeShapes Go.WideShapes Go.ChangeAt Go.RowKit
set_option linter.unusedVariables false
set_option linter.unusedSimpArgs false
section
open Go.ChangeShapes
variable {H : Type} {enc : TypeId × Value → H} {P : Program} {w : World} {base : Nat} {spare : Nat → Bool} {held : Bool}
theorem trodAll_five {t t' t'' t3 t4 : TypeId} {args : Array Value} {ds : List (DataW H)} {ps : List MemPlace} (h : DataW.TrodAll enc P w base spare held [t, t', t'', t3, t4] args.toList ds ps) :
    ∃ v v' v'' v3 v4 d d' d'' d3 d4 p p' p'' p3 p4, args = #[v, v', v'', v3, v4] ∧ ds = [d, d', d'', d3, d4] ∧ ps = p ++ p' ++ p'' ++ p3 ++ p4 ∧ DataW.Trod enc P w base spare held t v d p ∧ DataW.Trod enc P w base spare held t' v' d' p' ∧ DataW.Trod enc P w base spare held t'' v'' d'' p'' ∧ DataW.Trod enc P w base spare held t3 v3 d3 p3 ∧ DataW.Trod enc P w base spare held t4 v4 d4 p4 := by
  obtain ⟨v, vs, d, ds', p, q, hargs, rfl, rfl, hd, hrest⟩ := trodAll_cons h
  obtain ⟨v', vs', d', ds'', p', q', rfl, rfl, rfl, hd', hrest'⟩ := trodAll_cons hrest
  obtain ⟨v'', vs'', d'', ds''', p'', q'', rfl, rfl, rfl, hd'', hrest''⟩ := trodAll_cons hrest'
  obtain ⟨v3, vs3, d3, ds3, p3, q3, rfl, rfl, rfl, hd3, hrest3⟩ := trodAll_cons hrest''
  obtain ⟨v4, vs4, d4, ds4, p4, q4, rfl, rfl, rfl, hd4, hrest4⟩ := trodAll_cons hrest3
  obtain ⟨rfl, rfl, rfl⟩ := trodAll_nil hrest4
  exact ⟨v, v', v'', v3, v4, d, d', d'', d3, d4, p, p', p'', p3, p4, by cases args; simp_all, rfl, by simp, hd, hd', hd'', hd3, hd4⟩
end
section
variable {H : Type} {enc : TypeId × Value → H} {W : World}
set_option maxRecDepth 100000 in
theorem open_rss_sized {base : Nat} {v : Value} {d : DataW H} {p : List MemPlace} {ts : List TypeId} {ds : List (DataW H)} (hz0 : (DataW.weightsEach Try.prog ts ds).all (· ≤ reachBytes) = true) (j : Nat) (htj : ts[j]? = some 22) (hdj : ds[j]? = some d)
    (hval : Value.okWide Try.prog W .any base 22 v) (h : DataW.Trod enc Try.prog W 0 (fun _ => true) true 22 v d p) :
    ∃ vs ls, Rss W v vs ls ∧ ∀ b ∈ ls, b.length ≤ 140737488355328 := by
  obtain ⟨a1, len1, cap1, rfl⟩ := okWide_slice Try.underlying22 hval
  obtain ⟨fuel, hf⟩ := h
  rcases Go.Deep.open_slice1 Try.underlying22 cellsOf23 hf with ⟨hcs, hx⟩ | ⟨a, len, cap, m, n, V, D, Pl, hcs, _, hl, hm, hmm, hx, hcell⟩
  · simp [Value.cells] at hcs
    obtain ⟨rfl, rfl, rfl⟩ := hcs
    exact ⟨[], [], ⟨Rd.nil W 1, fun i hi => absurd hi (Nat.not_lt_zero _)⟩, fun b hb => by cases hb⟩
  · simp [Value.cells] at hcs
    obtain ⟨rfl, rfl, rfl⟩ := hcs
    simp only [if_true] at hmm
    subst hmm
    simp only [Prod.mk.injEq] at hx
    obtain ⟨rfl, _⟩ := hx
    have each : ∀ i, i < len1 → ∃ l : List UInt8, Bs W (V i) l ∧ l.length ≤ 140737488355328 := fun i hi => by
      exact bs_sized (hcell i (by omega)).2 (fun k hk => by
        have h1 := List.all_eq_true.1 hz0 _ (DataW.weights_mem_each htj hdj k (by
          simp only [DataW.weights, Try.underlying22, List.mem_cons, List.mem_append]
          exact Or.inr (Or.inl (weightsAll_mem (d := D i) (List.mem_map.2 ⟨i, List.mem_range.2 hi, rfl⟩) k hk))))
        simpa using h1)
    obtain ⟨L, hL⟩ := Go.Deep.choose_lt each
    refine ⟨(List.range len1).map V, (List.range len1).map L, ⟨?_, fun i hi => ?_⟩, fun b hb => ?_⟩
    · rw [List.length_map, List.length_range]
      refine ⟨by simp, some a, _, rfl, hl, hm, (fun h => by cases h), fun h0 => ?_⟩
      obtain ⟨ab, ao, spot⟩ := a
      have hspot : spot = none := by simpa [Addr.add] using World.cell?_spot (hcell 0 (by omega)).1
      subst hspot
      refine ⟨ab, ao, rfl, ?_, fun j u hj => ?_⟩
      · have := World.block_lt_of_cell? W _ (hcell 0 (by omega)).1
        simpa [Addr.add] using this
      · have hj' : j < len1 := by have := (List.getElem?_eq_some_iff.1 hj).1; simpa using this
        have hcj := (hcell j (by omega)).1
        rw [Addr.add_lit] at hcj
        rw [hcj]
        simp [hj'] at hj
        rw [hj]
    · have hi' : i < len1 := by simpa using hi
      refine ⟨V i, by simp [hi'], ?_⟩
      have e : ((List.range len1).map L).getD i [] = L i := by simp [List.getD, hi']
      rw [e]
      exact (hL i hi').1
    · obtain ⟨i, hi, rfl⟩ := List.mem_map.1 hb
      exact (hL i (List.mem_range.1 hi)).2
end
end Go.Proofs.Ytapojpjmeadabaa
end

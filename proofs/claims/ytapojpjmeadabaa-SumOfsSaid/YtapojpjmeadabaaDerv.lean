/- mac.Derive, sacristanref03.Derive: bytes of a key. -/
import Derived.Test.YtapojpjmeadabaaKnown3
namespace Go.Proofs.Ytapojpjmeadabaa
open Go.RowKit
set_option linter.unusedVariables false
set_option linter.unusedSimpArgs false
attribute [local go_sem] lt_ext cell?_ext frozen?_ext shape?_ext

/-- The tags of the numbers 1 .. r, one behind the other. -/
def strm (key lab : List UInt8) : Nat → List UInt8
  | 0 => []
  | r + 1 => strm key lab r ++ Sha.tag key (lab ++ be (r + 1) 4)
theorem strm_length (key lab : List UInt8) : ∀ r, (strm key lab r).length = 32 * r
  | 0 => rfl
  | r + 1 => by rw [strm, List.length_append, strm_length key lab r, Sha.tag_length]; omega
def drv (key lab : List UInt8) (n : Nat) : List UInt8 := (strm key lab ((n + 31) / 32)).take n
theorem drv_length (key lab : List UInt8) (n : Nat) : (drv key lab n).length = n := by
  unfold drv; rw [List.length_take, strm_length]; omega
theorem strm_pre (key lab : List UInt8) (a : Nat) : ∀ b, a ≤ b → (strm key lab b).take (32 * a) = strm key lab a := by
  intro b
  induction b with
  | zero =>
    intro h
    have h0 : a = 0 := by omega
    rw [h0]
    rfl
  | succ b ih =>
    intro h
    by_cases e : a = b + 1
    · subst e; exact List.take_of_length_le (by rw [strm_length]; omega)
    · rw [strm, List.take_append_of_le_length (by rw [strm_length]; omega)]
      exact ih (by omega)
theorem strm_take (key lab : List UInt8) (n r : Nat) (h : n ≤ 32 * r) : (strm key lab r).take n = drv key lab n := by
  unfold drv
  rw [← strm_pre key lab ((n + 31) / 32) r (by omega), List.take_take]
  congr 1
  omega
theorem drv_take (key lab : List UInt8) (n m : Nat) (h : n ≤ m) : (drv key lab m).take n = drv key lab n := by
  unfold drv
  rw [List.take_take, Nat.min_eq_left h]
  exact strm_take key lab n _ (by omega)
set_option maxRecDepth 100000 in
set_option maxHeartbeats 2000000 in
theorem derive_in (kv : Value) (key lab : List UInt8) (s : ByteArray) (N : Nat) (hN0 : 0 < N) (hN : N ≤ 1024) (w : World) (hK : Bs w kv key) (hk : key.length ≤ 2147483648) (HLAB : Hid (s.data.toList = lab)) (hlab : lab.length ≤ 1000) :
    Calls Try.prog 52 #[kv, .string s, .int .i64 (N : Int)] w fun e w' => ∃ v, e = .returned v ∧ Bs w' v (drv key lab N) ∧ Ext w w' := by
  have HK := Lib.hid hK
  clear hK
  go_enter Try.func52, Try.ntmps52
  go_wp2
  go_step3
  go_wp2
  go_step3
  go_wp2
  go_loopw [7, 8, 9] (fun v i p wr => ∃ r : Nat, r ≤ (N + 31) / 32 ∧ i = .int .u64 ((r : Int) + 1) ∧ NewB w v (strm key lab r) wr) (fun v i p _ => 40 - (intOf i).toNat)
  case atStart => exact ⟨0, by omega, rfl, NewB.nil (Ext.refl w)⟩
  case round =>
    obtain ⟨r, hr, rfl, hnew⟩ := hrel
    obtain ⟨A1, cap1, rfl, hcap1, hcm1, _, _⟩ := hnew.bs.is
    have hl := strm_length key lab r
    have HT : Hid (∀ h : N ≤ 32 * r, (strm key lab r).take N = drv key lab N) := Lib.hid (strm_take key lab N r)
    obtain ⟨D, hD⟩ : ∃ D, Sha.tag key (lab ++ be (r + 1) 4) = D := ⟨_, rfl⟩
    have HS : Hid (strm key lab (r + 1) = strm key lab r ++ D) := Lib.hid (by rw [← hD]; rfl)
    have HDl : Hid (D.length = 32) := Lib.hid (by rw [← hD]; exact Sha.tag_length _ _)
    obtain ⟨M, hM⟩ : ∃ M, lab ++ be (r + 1) 4 = M := ⟨_, rfl⟩
    rw [hM] at hD
    have hMl : M.length ≤ 1004 := by rw [← hM, List.length_append, be_length]; omega
    have HD := Lib.hid hD
    have HM := Lib.hid hM
    have HN := Lib.hid hnew
    obtain ⟨L, hL⟩ : ∃ L, strm key lab r = L := ⟨_, rfl⟩
    rw [hL] at hl HT HS HN
    rw [hL] at hcap1
    rw [hL]
    have HL := Lib.hid hl
    have hLle : L.length ≤ 1100 := by omega
    clear hnew hD hM hL
    by_cases hlt : L.length < N
    · clear hl
      go_wp2_with (first | (refine wpl_bytes rfl (.tmp 20) rfl s rfl lab HLAB.out (by omega) ?_; intro va wa hna; obtain ⟨A2, cap2, rfl, _, _, _, _⟩ := hna.bs.is; have HNA := Lib.hid hna; clear hna) | (go_at_call 95; go_must (refine (cput_any (r + 1) (by omega) 4 (by decide) (by decide) _).mono ?_; rintro e wb ⟨vb, rfl, hnb⟩; obtain ⟨A3, cap3, rfl, _, _, _, _⟩ := hnb.bs.is; have HNB := Lib.hid hnb; clear hnb)) | (go_at_call 47; go_must (refine (tag_two D M lab (be (r + 1) 4) _ _ _ key _ _ rfl HM HD (Rd.ext HK.out (HN.out.ext.trans (HNA.out.ext.trans HNB.out.ext))) (Rd.ext HNA.out.bs HNB.out.ext) HNB.out.bs (by omega) (by omega)).mono ?_; rintro e wc ⟨rfl, hxc⟩; have HNC := Lib.hid (HN.out.grow ((HNA.out.ext.trans HNB.out.ext).trans hxc)); clear hxc)) | (refine wpl_alloc_agg rfl 27 rfl _ zero27.1 ?_) | (refine wpl_store27 rfl _ _ rfl wc.heap.size D (Sha.zeros 32) rfl rfl HDl.out (by simp [Sha.zeros]) (heap_alloc_last wc _) ?_; intro wd hd hud; have HDD : Hid (Blk wd wc.heap.size 27 D) := Lib.hid hd; have hsd : wc.heap.size < wd.heap.size := HDD.out.lt; have HND := Lib.hid (HNC.out.grow (((Ext.refl wc).alloc _).upd_new hud (Nat.le_refl _))); clear hd hud) | (at_builtin; go_must (refine wpList_append_bs rfl _ _ rfl _ rfl HND.out.own _ rfl (Blk.whole HDD.out 32 32 HDl.out.symm (Nat.le_refl _) (by decide)) (by have := HDl.out; omega) ?_; intro ve we hoe hge hfe; have HNE := Lib.hid (HND.out.app hoe hge hfe); clear hoe hge hfe)))
      go_roundw
      case rel => exact ⟨r + 1, by have := HL.out; omega, by go_num, by rw [HS.out]; exact HNE.out⟩
      case measure => simp [intOf]; omega
    · have hge : N ≤ L.length := by omega
      clear hl
      have HB := Lib.hid HN.out.bs
      have HX := Lib.hid HN.out.ext
      go_wp2_with (refine wpList_slice_bs rfl (.tmp 29) none (some (.tmp 30)) rfl _ rfl HB.out 0 N (.inl ⟨rfl, rfl⟩) (by exact .inr rfl) (by omega) (by omega) ?_; intro v2 hv2; have HV2 := Lib.hid hv2; clear hv2)
      rw [Exit.noGoto_ret]
      go_ret
      exact ⟨_, rfl, by have h := HV2.out; rw [List.drop_zero, HT.out (by have := HL.out; omega)] at h; exact h, HX.out⟩
set_option maxRecDepth 100000 in
set_option maxHeartbeats 2000000 in
theorem derive_big (kv : Value) (key lab : List UInt8) (s : ByteArray) (n : Int) (hn : 1024 < n) (w : World) (hK : Bs w kv key) (hk : key.length ≤ 2147483648) (HLAB : Hid (s.data.toList = lab)) (hlab : lab.length ≤ 1000) :
    Calls Try.prog 52 #[kv, .string s, .int .i64 n] w fun e w' => ∃ v, e = .returned v ∧ Bs w' v (drv key lab 1024) ∧ Ext w w' := by
  have HK := Lib.hid hK
  clear hK
  go_enter Try.func52, Try.ntmps52
  go_wp2
  go_step3
  go_wp2
  go_step3
  go_wp2
  go_loopw [7, 8, 9] (fun v i p wr => ∃ r : Nat, r ≤ (1024 + 31) / 32 ∧ i = .int .u64 ((r : Int) + 1) ∧ NewB w v (strm key lab r) wr) (fun v i p _ => 40 - (intOf i).toNat)
  case atStart => exact ⟨0, by omega, rfl, NewB.nil (Ext.refl w)⟩
  case round =>
    obtain ⟨r, hr, rfl, hnew⟩ := hrel
    obtain ⟨A1, cap1, rfl, hcap1, hcm1, _, _⟩ := hnew.bs.is
    have hl := strm_length key lab r
    have HT : Hid (∀ h : 1024 ≤ 32 * r, (strm key lab r).take 1024 = drv key lab 1024) := Lib.hid (strm_take key lab 1024 r)
    obtain ⟨D, hD⟩ : ∃ D, Sha.tag key (lab ++ be (r + 1) 4) = D := ⟨_, rfl⟩
    have HS : Hid (strm key lab (r + 1) = strm key lab r ++ D) := Lib.hid (by rw [← hD]; rfl)
    have HDl : Hid (D.length = 32) := Lib.hid (by rw [← hD]; exact Sha.tag_length _ _)
    obtain ⟨M, hM⟩ : ∃ M, lab ++ be (r + 1) 4 = M := ⟨_, rfl⟩
    rw [hM] at hD
    have hMl : M.length ≤ 1004 := by rw [← hM, List.length_append, be_length]; omega
    have HD := Lib.hid hD
    have HM := Lib.hid hM
    have HN := Lib.hid hnew
    obtain ⟨L, hL⟩ : ∃ L, strm key lab r = L := ⟨_, rfl⟩
    rw [hL] at hl HT HS HN
    rw [hL] at hcap1
    rw [hL]
    have HL := Lib.hid hl
    have hLle : L.length ≤ 1100 := by omega
    clear hnew hD hM hL
    by_cases hlt : L.length < 1024
    · clear hl
      go_wp2_with (first | (refine wpl_bytes rfl (.tmp 20) rfl s rfl lab HLAB.out (by omega) ?_; intro va wa hna; obtain ⟨A2, cap2, rfl, _, _, _, _⟩ := hna.bs.is; have HNA := Lib.hid hna; clear hna) | (go_at_call 95; go_must (refine (cput_any (r + 1) (by omega) 4 (by decide) (by decide) _).mono ?_; rintro e wb ⟨vb, rfl, hnb⟩; obtain ⟨A3, cap3, rfl, _, _, _, _⟩ := hnb.bs.is; have HNB := Lib.hid hnb; clear hnb)) | (go_at_call 47; go_must (refine (tag_two D M lab (be (r + 1) 4) _ _ _ key _ _ rfl HM HD (Rd.ext HK.out (HN.out.ext.trans (HNA.out.ext.trans HNB.out.ext))) (Rd.ext HNA.out.bs HNB.out.ext) HNB.out.bs (by omega) (by omega)).mono ?_; rintro e wc ⟨rfl, hxc⟩; have HNC := Lib.hid (HN.out.grow ((HNA.out.ext.trans HNB.out.ext).trans hxc)); clear hxc)) | (refine wpl_alloc_agg rfl 27 rfl _ zero27.1 ?_) | (refine wpl_store27 rfl _ _ rfl wc.heap.size D (Sha.zeros 32) rfl rfl HDl.out (by simp [Sha.zeros]) (heap_alloc_last wc _) ?_; intro wd hd hud; have HDD : Hid (Blk wd wc.heap.size 27 D) := Lib.hid hd; have hsd : wc.heap.size < wd.heap.size := HDD.out.lt; have HND := Lib.hid (HNC.out.grow (((Ext.refl wc).alloc _).upd_new hud (Nat.le_refl _))); clear hd hud) | (at_builtin; go_must (refine wpList_append_bs rfl _ _ rfl _ rfl HND.out.own _ rfl (Blk.whole HDD.out 32 32 HDl.out.symm (Nat.le_refl _) (by decide)) (by have := HDl.out; omega) ?_; intro ve we hoe hge hfe; have HNE := Lib.hid (HND.out.app hoe hge hfe); clear hoe hge hfe)))
      go_roundw
      case rel => exact ⟨r + 1, by have := HL.out; omega, by go_num, by rw [HS.out]; exact HNE.out⟩
      case measure => simp [intOf]; omega
    · have hge : 1024 ≤ L.length := by omega
      clear hl
      have HB := Lib.hid HN.out.bs
      have HX := Lib.hid HN.out.ext
      go_wp2_with (refine wpList_slice_bs rfl (.tmp 29) none (some (.tmp 30)) rfl _ rfl HB.out 0 1024 (.inl ⟨rfl, rfl⟩) (by exact .inr rfl) (by omega) (by omega) ?_; intro v2 hv2; have HV2 := Lib.hid hv2; clear hv2)
      rw [Exit.noGoto_ret]
      go_ret
      exact ⟨_, rfl, by have h := HV2.out; rw [List.drop_zero, HT.out (by have := HL.out; omega)] at h; exact h, HX.out⟩
set_option maxRecDepth 100000 in
set_option maxHeartbeats 2000000 in
theorem derive_neg (kv : Value) (key lab : List UInt8) (s : ByteArray) (n : Int) (hn : n ≤ 0) (w : World) (hK : Bs w kv key) (hk : key.length ≤ 2147483648) (HLAB : Hid (s.data.toList = lab)) (hlab : lab.length ≤ 1000) :
    Calls Try.prog 52 #[kv, .string s, .int .i64 n] w fun e w' => ∃ v, e = .returned v ∧ Bs w' v (drv key lab 0) ∧ Ext w w' := by
  have HK := Lib.hid hK
  clear hK
  have hn1 : ¬ 1024 < n := by omega
  have hn0 : ¬ 0 < n := by omega
  go_enter Try.func52, Try.ntmps52
  go_wp2
  go_step3
  go_wp2
  go_step3
  go_wp2
  go_loopw [7] (fun v wr => v = .slice none 0 0 ∧ Ext w wr) (fun v _ => 0)
  case atStart => exact ⟨rfl, Ext.refl w⟩
  case round =>
    obtain ⟨rfl, hx⟩ := hrel
    have HX := Lib.hid hx
    clear hx
    go_wp2_with (refine wpList_slice_bs rfl (.tmp 29) none (some (.tmp 30)) rfl _ rfl (l := []) (Rd.nil _ 1) 0 0 (.inl ⟨rfl, rfl⟩) (by exact .inr rfl) (by omega) (by simp) ?_; intro v2 hv2; have HV2 := Lib.hid hv2; clear hv2)
    rw [Exit.noGoto_ret]
    go_ret
    exact ⟨_, rfl, HV2.out, HX.out⟩
set_option maxRecDepth 100000 in
set_option maxHeartbeats 2000000 in
theorem rderive_in (kv : Value) (key lab : List UInt8) (s : ByteArray) (N : Nat) (hN0 : 0 < N) (hN : N ≤ 1024) (w : World) (hK : Bs w kv key) (hk : key.length ≤ 2147483648) (HLAB : Hid (s.data.toList = lab)) (hlab : lab.length ≤ 1000) :
    Calls Try.prog 53 #[kv, .string s, .int .i64 (N : Int)] w fun e w' => ∃ v, e = .returned v ∧ Bs w' v (drv key lab N) ∧ Ext w w' := by
  have HK := Lib.hid hK
  clear hK
  go_enter Try.func53, Try.ntmps53
  go_wp2
  go_loopw [7, 8, 9] (fun v i p wr => ∃ r : Nat, r ≤ (N + 31) / 32 ∧ i = .int .i64 ((r : Int) + 1) ∧ NewB w v (strm key lab r) wr) (fun v i p _ => 40 - (intOf i).toNat)
  case atStart => exact ⟨0, by omega, rfl, NewB.nil (Ext.refl w)⟩
  case round =>
    obtain ⟨r, hr, rfl, hnew⟩ := hrel
    obtain ⟨A1, cap1, rfl, hcap1, hcm1, _, _⟩ := hnew.bs.is
    have hl := strm_length key lab r
    have HT : Hid (∀ h : N ≤ 32 * r, (strm key lab r).take N = drv key lab N) := Lib.hid (strm_take key lab N r)
    obtain ⟨D, hD⟩ : ∃ D, Sha.tag key (lab ++ be (r + 1) 4) = D := ⟨_, rfl⟩
    have HS : Hid (strm key lab (r + 1) = strm key lab r ++ D) := Lib.hid (by rw [← hD]; rfl)
    have HDl : Hid (D.length = 32) := Lib.hid (by rw [← hD]; exact Sha.tag_length _ _)
    obtain ⟨M, hM⟩ : ∃ M, lab ++ be (r + 1) 4 = M := ⟨_, rfl⟩
    rw [hM] at hD
    have hMl : M.length ≤ 1004 := by rw [← hM, List.length_append, be_length]; omega
    have HD := Lib.hid hD
    have HM := Lib.hid hM
    have HN := Lib.hid hnew
    obtain ⟨L, hL⟩ : ∃ L, strm key lab r = L := ⟨_, rfl⟩
    rw [hL] at hl HT HS HN
    rw [hL] at hcap1
    rw [hL]
    have HL := Lib.hid hl
    have hLle : L.length ≤ 1100 := by omega
    clear hnew hD hM hL
    by_cases hlt : L.length < N
    · clear hl
      have T0 : True := trivial
      go_wp2_with (first | (refine wpl_bytes rfl (.tmp 19) rfl s rfl lab HLAB.out (by omega) ?_; intro va wa hna; have HNA := Lib.hid hna; clear hna) | (go_at_call 79; go_must (refine (put_any (r + 1) (by omega) 4 (by decide) (by decide) _).mono ?_; rintro e wb ⟨vb, rfl, hnb⟩; have HNB := Lib.hid hnb; clear hnb)) | (at_builtin; clear T0; go_must (refine wpList_append_m rfl _ _ rfl _ rfl (HNA.out.grow HNB.out.ext).own _ rfl HNB.out.bs (by rw [be_length]; omega) ?_; intro vc wc hoc hgc hfc; have HNM := Lib.hid ((HNA.out.grow HNB.out.ext).app hoc hgc hfc); rw [HM.out] at HNM; have T1 : True := trivial; clear hoc hgc hfc)) | (go_at_call 46; go_must (refine (rtag_any _ _ key M _ (Rd.ext HK.out (HN.out.ext.trans HNM.out.ext)) HNM.out.bs (by omega) (by omega)).mono ?_; rintro e wd ⟨rfl, hxd⟩; rw [HD.out]; have HND := Lib.hid (HN.out.grow (HNM.out.ext.trans hxd)); clear hxd)) | (go_at_call 50; go_must (refine (slice_any D HDl.out _).mono ?_; rintro e wf ⟨vf, rfl, hnf⟩; have HBF := Lib.hid hnf.bs; have HNF := Lib.hid (HND.out.grow hnf.ext); clear hnf)) | (at_builtin; clear T1; go_must (refine wpList_append_bs rfl _ _ rfl _ rfl HNF.out.own _ rfl HBF.out (by have := HDl.out; omega) ?_; intro ve we hoe hge hfe; have HNE := Lib.hid (HNF.out.app hoe hge hfe); clear hoe hge hfe)))
      go_roundw
      case rel => exact ⟨r + 1, by have := HL.out; omega, by go_num, by rw [HS.out]; exact HNE.out⟩
      case measure => simp [intOf]; omega
    · have hge : N ≤ L.length := by omega
      clear hl
      have HB := Lib.hid HN.out.bs
      have HX := Lib.hid HN.out.ext
      go_wp2_with (refine wpList_slice_bs rfl (.tmp 32) none (some (.tmp 33)) rfl _ rfl HB.out 0 N (.inl ⟨rfl, rfl⟩) (by exact .inr rfl) (by omega) (by omega) ?_; intro v2 hv2; have HV2 := Lib.hid hv2; clear hv2)
      go_ret
      exact ⟨_, rfl, by have h := HV2.out; rw [List.drop_zero, HT.out (by have := HL.out; omega)] at h; exact h, HX.out⟩
set_option maxRecDepth 100000 in
set_option maxHeartbeats 2000000 in
theorem rderive_big (kv : Value) (key lab : List UInt8) (s : ByteArray) (n : Int) (hn : 1024 < n) (w : World) (hK : Bs w kv key) (hk : key.length ≤ 2147483648) (HLAB : Hid (s.data.toList = lab)) (hlab : lab.length ≤ 1000) :
    Calls Try.prog 53 #[kv, .string s, .int .i64 n] w fun e w' => ∃ v, e = .returned v ∧ Bs w' v (drv key lab 1024) ∧ Ext w w' := by
  have HK := Lib.hid hK
  clear hK
  go_enter Try.func53, Try.ntmps53
  go_wp2
  go_loopw [7, 8, 9] (fun v i p wr => ∃ r : Nat, r ≤ (1024 + 31) / 32 ∧ i = .int .i64 ((r : Int) + 1) ∧ NewB w v (strm key lab r) wr) (fun v i p _ => 40 - (intOf i).toNat)
  case atStart => exact ⟨0, by omega, rfl, NewB.nil (Ext.refl w)⟩
  case round =>
    obtain ⟨r, hr, rfl, hnew⟩ := hrel
    obtain ⟨A1, cap1, rfl, hcap1, hcm1, _, _⟩ := hnew.bs.is
    have hl := strm_length key lab r
    have HT : Hid (∀ h : 1024 ≤ 32 * r, (strm key lab r).take 1024 = drv key lab 1024) := Lib.hid (strm_take key lab 1024 r)
    obtain ⟨D, hD⟩ : ∃ D, Sha.tag key (lab ++ be (r + 1) 4) = D := ⟨_, rfl⟩
    have HS : Hid (strm key lab (r + 1) = strm key lab r ++ D) := Lib.hid (by rw [← hD]; rfl)
    have HDl : Hid (D.length = 32) := Lib.hid (by rw [← hD]; exact Sha.tag_length _ _)
    obtain ⟨M, hM⟩ : ∃ M, lab ++ be (r + 1) 4 = M := ⟨_, rfl⟩
    rw [hM] at hD
    have hMl : M.length ≤ 1004 := by rw [← hM, List.length_append, be_length]; omega
    have HD := Lib.hid hD
    have HM := Lib.hid hM
    have HN := Lib.hid hnew
    obtain ⟨L, hL⟩ : ∃ L, strm key lab r = L := ⟨_, rfl⟩
    rw [hL] at hl HT HS HN
    rw [hL] at hcap1
    rw [hL]
    have HL := Lib.hid hl
    have hLle : L.length ≤ 1100 := by omega
    clear hnew hD hM hL
    by_cases hlt : L.length < 1024
    · clear hl
      have T0 : True := trivial
      go_wp2_with (first | (refine wpl_bytes rfl (.tmp 19) rfl s rfl lab HLAB.out (by omega) ?_; intro va wa hna; have HNA := Lib.hid hna; clear hna) | (go_at_call 79; go_must (refine (put_any (r + 1) (by omega) 4 (by decide) (by decide) _).mono ?_; rintro e wb ⟨vb, rfl, hnb⟩; have HNB := Lib.hid hnb; clear hnb)) | (at_builtin; clear T0; go_must (refine wpList_append_m rfl _ _ rfl _ rfl (HNA.out.grow HNB.out.ext).own _ rfl HNB.out.bs (by rw [be_length]; omega) ?_; intro vc wc hoc hgc hfc; have HNM := Lib.hid ((HNA.out.grow HNB.out.ext).app hoc hgc hfc); rw [HM.out] at HNM; have T1 : True := trivial; clear hoc hgc hfc)) | (go_at_call 46; go_must (refine (rtag_any _ _ key M _ (Rd.ext HK.out (HN.out.ext.trans HNM.out.ext)) HNM.out.bs (by omega) (by omega)).mono ?_; rintro e wd ⟨rfl, hxd⟩; rw [HD.out]; have HND := Lib.hid (HN.out.grow (HNM.out.ext.trans hxd)); clear hxd)) | (go_at_call 50; go_must (refine (slice_any D HDl.out _).mono ?_; rintro e wf ⟨vf, rfl, hnf⟩; have HBF := Lib.hid hnf.bs; have HNF := Lib.hid (HND.out.grow hnf.ext); clear hnf)) | (at_builtin; clear T1; go_must (refine wpList_append_bs rfl _ _ rfl _ rfl HNF.out.own _ rfl HBF.out (by have := HDl.out; omega) ?_; intro ve we hoe hge hfe; have HNE := Lib.hid (HNF.out.app hoe hge hfe); clear hoe hge hfe)))
      go_roundw
      case rel => exact ⟨r + 1, by have := HL.out; omega, by go_num, by rw [HS.out]; exact HNE.out⟩
      case measure => simp [intOf]; omega
    · have hge : 1024 ≤ L.length := by omega
      clear hl
      have HB := Lib.hid HN.out.bs
      have HX := Lib.hid HN.out.ext
      go_wp2_with (refine wpList_slice_bs rfl (.tmp 32) none (some (.tmp 33)) rfl _ rfl HB.out 0 1024 (.inl ⟨rfl, rfl⟩) (by exact .inr rfl) (by omega) (by omega) ?_; intro v2 hv2; have HV2 := Lib.hid hv2; clear hv2)
      go_ret
      exact ⟨_, rfl, by have h := HV2.out; rw [List.drop_zero, HT.out (by have := HL.out; omega)] at h; exact h, HX.out⟩
set_option maxRecDepth 100000 in
set_option maxHeartbeats 2000000 in
theorem rderive_neg (kv : Value) (key lab : List UInt8) (s : ByteArray) (n : Int) (hn : n ≤ 0) (w : World) (hK : Bs w kv key) (hk : key.length ≤ 2147483648) (HLAB : Hid (s.data.toList = lab)) (hlab : lab.length ≤ 1000) :
    Calls Try.prog 53 #[kv, .string s, .int .i64 n] w fun e w' => ∃ v, e = .returned v ∧ Bs w' v (drv key lab 0) ∧ Ext w w' := by
  have HK := Lib.hid hK
  clear hK
  have hn1 : ¬ 1024 < n := by omega
  have hn0 : ¬ 0 < n := by omega
  go_enter Try.func53, Try.ntmps53
  go_wp2
  go_loopw [7] (fun v wr => v = .slice none 0 0 ∧ Ext w wr) (fun v _ => 0)
  case atStart => exact ⟨rfl, Ext.refl w⟩
  case round =>
    obtain ⟨rfl, hx⟩ := hrel
    have HX := Lib.hid hx
    clear hx
    go_wp2_with (refine wpList_slice_bs rfl (.tmp 32) none (some (.tmp 33)) rfl _ rfl (l := []) (Rd.nil _ 1) 0 0 (.inl ⟨rfl, rfl⟩) (by exact .inr rfl) (by omega) (by simp) ?_; intro v2 hv2; have HV2 := Lib.hid hv2; clear hv2)
    go_ret
    exact ⟨_, rfl, HV2.out, HX.out⟩
end Go.Proofs.Ytapojpjmeadabaa

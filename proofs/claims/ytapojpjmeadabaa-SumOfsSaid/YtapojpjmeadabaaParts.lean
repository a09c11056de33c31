/- sacristanlaw03.MacParts. -/
import Derived.Test.YtapojpjmeadabaaBegs
namespace Go.Proofs.Ytapojpjmeadabaa
open Go.RowKit
set_option linter.unusedVariables false
set_option linter.unusedSimpArgs false
attribute [local go_sem] lt_ext cell?_ext frozen?_ext shape?_ext

theorem exec_bytes {o : Oper} {ρ : Operand → Value} (x : Operand) (ho : o.op = .convert 9 23 x) (s : ByteArray) (hx : ρ x = .string s) (l : List UInt8) (hl : s.data.toList = l) (h32 : l.length ≤ 4294967296) (w : World) :
    ∃ v w', (execOp ρ o).run Try.prog w = .ok (.value v) w' ∧ NewM w v l w' := by
  have hr := run_bytes_of_string (P := Try.prog) w 9 23 5 s Try.underlying9 Try.underlying23 Try.underlying5
  have hsz : s.size = l.length := by rw [← hl, Array.length_toList]; rfl
  have he : (execOp ρ o).run Try.prog w = .ok (.value (.slice (some ⟨w.heap.size, 0, none⟩) s.size (grownCap w s.size 0 5))) (w.drew.alloc (.cells (bytesRow s (grownCap w s.size 0 5)) 5 ((bytesRow s (grownCap w s.size 0 5)).size, (bytesRow s (grownCap w s.size 0 5)).size + 1))) := by
    unfold execOp
    simp only [ho, hx, Sem.run_bind, hr, Result.andThen_ok, Sem.run_pure]
  refine ⟨_, _, he, ⟨w.heap.size, grownCap w s.size 0 5, bytesRow s (grownCap w s.size 0 5), _, by rw [hsz], heap_alloc_new w.drew _, ?_, ?_, ?_, ?_, .inr ?_⟩, ⟨rfl, rfl, rfl, by simp, fun k hk => heap_alloc_old w.drew _ hk⟩, fun g hg => by injection hg with e; subst e; exact Nat.le_refl _⟩
  · rw [← hsz]; exact grownCap_ge w s.size 0 5
  · exact grownCap_le_maxLen w s.size 0 5 (by unfold maxLen; omega)
  · have := grownCap_ge w s.size 0 5
    have h2 : s.data.size = s.size := rfl
    simp only [bytesRow, Array.size_append, Array.size_map, Array.size_replicate]
    omega
  · have h2 : s.data.size = s.size := rfl
    simp only [bytesRow, Array.toList_append, Array.toList_map, hl]
    exact List.take_left' (by simp)
  · have := grownCap_ge w s.size 0 5
    have h2 : s.data.size = s.size := rfl
    simp only [bytesRow, Array.size_append, Array.size_map, Array.size_replicate]
    omega
theorem wpl_bytes_g {ops : Array Oper} {rest : List Oper} {o : Oper} {a : Act} {w : World} {Q : Exit → Act → World → Prop} (hw : Region.wanted o (yielded ops a.tmps) = true) (x : Operand) (ho : o.op = .convert 9 23 x)
    (s : ByteArray) (hx : a.eval x = .string s) (l : List UInt8) (hl : s.data.toList = l) (h32 : l.length ≤ 4294967296)
    (h : ∀ v w', NewM w v l w' → wpList Try.prog ops Q rest (a.put o.dst v) w') : wpList Try.prog ops Q (o :: rest) a w := by
  obtain ⟨v, w', hr, hn⟩ := exec_bytes (ρ := a.eval) x ho s hx l hl h32 w
  exact wpl_vw hw v w' hr (h v w' hn)
theorem check_two (D M tag : List UInt8) (l l' : List UInt8) (u u' kv tv : Value) (key : List UInt8) (w : World) (g : Nat) (hg : g = w.heap.size) (b : Bool) (hM : Hid (l ++ l' = M)) (hD : Hid (Sha.tag key M = D)) (hb : Hid (decide (D = tag) = b)) (hK : Bs w kv key) (hT : Bs w tv tag) (h : Bs w u l) (h' : Bs w u' l') (hk : key.length ≤ 2147483648) (hf : M.length ≤ 1073741824) :
    Calls Try.prog 48 #[kv, tv, .slice (some ⟨g, 0, none⟩) 2 2] (w.alloc (.cells #[u, u'] 23)) fun e w' => e = .returned (.bool b) ∧ Ext w w' := by
  subst hg
  have h1 := check_any M kv tv _ key tag [u, u'] [l, l'] _ (Rd.ext hK ((Ext.refl w).alloc _)) (Rd.ext hT ((Ext.refl w).alloc _)) (Rss.two w u u' l l' h h') hk (Lib.hid (by rw [← hM.out]; simp)) hf
  rw [hD.out, hb.out] at h1
  exact h1.mono fun e w' ⟨he, hx⟩ => ⟨he, ((Ext.refl w).alloc _).trans hx⟩
theorem check_none (kv : Value) (key : List UInt8) (w : World) (hK : Bs w kv key) (hk : key.length ≤ 2147483648) :
    Calls Try.prog 48 #[kv, .slice none 0 0, .slice none 0 0] w fun e w' => e = .returned (.bool false) ∧ Ext w w' := by
  have h1 := check_any [] kv _ _ key [] [] [] w hK (Rd.nil w 1) (Rss.none w) hk (Lib.hid rfl) (by decide)
  have e : decide (Sha.tag key [] = []) = false := by
    simp only [decide_eq_false_iff_not]
    intro h
    have := congrArg List.length h
    rw [Sha.tag_length] at this
    cases this
  rw [e] at h1
  exact h1
theorem be_small (k : Nat) (hk : k < 256) : be k 4 = [0, 0, 0, UInt8.ofNat k] := by
  simp only [be]
  have e1 : k / 256 ^ 3 = 0 := Nat.div_eq_of_lt (by omega)
  have e2 : k / 256 ^ 2 = 0 := Nat.div_eq_of_lt (by omega)
  have e3 : k / 256 ^ 1 = 0 := Nat.div_eq_of_lt (by omega)
  rw [e1, e2, e3, Nat.pow_zero, Nat.div_one]
  rfl
theorem Bs.from {w : World} {b o n cap : Nat} {l : List UInt8} (h : Bs w (.slice (some ⟨b, o, none⟩) n cap) l) (m k : Nat) (hn : n = l.length) (hk : m + k = n) (hk0 : 0 < k) : Bs w (.slice (some ⟨b, o + m, none⟩) k (cap - m)) (l.drop m) := by
  subst hn
  obtain ⟨A', cap', hv, h1, h2, h3, h4⟩ := h.is
  injection hv with e1 e2 e3
  subst e3
  obtain ⟨b', o', ha, hb, hc⟩ := h4 (by omega)
  rw [← e1] at ha
  injection ha with ha
  injection ha with ha1 ha2
  subst ha1; subst ha2
  have hl : (l.drop m).length = k := by simp; omega
  unfold Bs
  rw [hl]
  refine Rd.lit (by simp; omega) (by omega) (by omega) hb fun j u hj => ?_
  rw [List.map_drop, List.getElem?_drop] at hj
  have := hc (m + j) u hj
  rw [show o + m + j = o + (m + j) by omega]
  exact this
theorem four_bytes (w : World) (k : Nat) (hk : k < 256) (x : Int) (hx : x = (k : Int)) : Bs (w.alloc (.cells #[.int .u8 0, .int .u8 0, .int .u8 0, .int .u8 x] 5)) (.slice (some ⟨w.heap.size, 0, none⟩) 4 4) (be k 4) := by
  have h := Bs.lit_new w #[.int .u8 0, .int .u8 0, .int .u8 0, .int .u8 x] (be k 4) (by
    rw [be_small k hk, hx]
    have e : i8 (UInt8.ofNat k) = (k : Int) := by simp [i8]; omega
    simp only [List.map_cons, List.map_nil, B8, e]
    rfl) (by rw [be_length]; decide)
  rw [be_length] at h
  exact h
set_option maxRecDepth 100000 in
set_option maxHeartbeats 3000000 in
theorem parts_of (kv : Value) (key : List UInt8) (s : ByteArray) (n : Nat) (hn : n < 256) (hs : s.size ≤ maxLen) (w : World) (hK : Bs w kv key) :
    Calls Try.prog 16 #[kv, .string s, .int .u8 (n : Int)] w fun e w' => e = .returned (.bool true) ∧ Ext w w' := by
  obtain ⟨Ak, capk, rfl, hcapk, hcmk, _, _⟩ := hK.is
  unfold maxLen at hcmk hs
  have HK := Lib.hid hK
  clear hK
  by_cases h1 : 100 < key.length
  · skip
    go_enter Try.func16, Try.ntmps16
    go_wp2_with (go_at_call 45; go_must (refine (known3_any _).mono ?_; rintro e w2 ⟨rfl, hx2⟩; have HX2 := Lib.hid hx2; clear hx2))
    go_ret
    exact ⟨rfl, HX2.out⟩
  by_cases h2 : 60 < s.size
  · skip
    go_enter Try.func16, Try.ntmps16
    go_wp2_with (go_at_call 45; go_must (refine (known3_any _).mono ?_; rintro e w2 ⟨rfl, hx2⟩; have HX2 := Lib.hid hx2; clear hx2))
    go_ret
    exact ⟨rfl, HX2.out⟩
  obtain ⟨lab, hlab⟩ : ∃ lab, s.data.toList = lab := ⟨_, rfl⟩
  have hll : lab.length ≤ 100 := by rw [← hlab, Array.length_toList]; have e : s.data.size = s.size := rfl; omega
  have HLAB := Lib.hid hlab
  clear hlab
  obtain ⟨k, hk, hk0, hk1⟩ : ∃ k : Nat, 1 + (n : Int) % 5 = (k : Int) ∧ 1 ≤ k ∧ k ≤ 5 := ⟨1 + n % 5, by omega, by omega, by omega⟩
  obtain ⟨K, hKm, hKk⟩ : ∃ K : Nat, 32 * (k : Int) = (K : Int) ∧ K = 32 * k := ⟨32 * k, by omega, rfl⟩
  obtain ⟨m, hm, hmk⟩ : ∃ m : Nat, (K : Int) - 32 = (m : Int) ∧ m + 32 = K := ⟨32 * k - 32, by omega, by omega⟩
  obtain ⟨L, hL⟩ : ∃ L, drv key lab (dN (K : Int)) = L := ⟨_, rfl⟩
  have hLs : L = strm key lab k := by
    rw [← hL, dN_nat K (by omega), hKk, ← strm_take key lab (32 * k) k (Nat.le_refl _)]
    exact List.take_of_length_le (by rw [strm_length]; exact Nat.le_refl _)
  have hLl : L.length = K := by rw [hLs, strm_length, hKk]
  have hSk : strm key lab k = strm key lab (k - 1) ++ Sha.tag key (lab ++ be k 4) := by
    obtain ⟨k0, rfl⟩ : ∃ k0, k = k0 + 1 := ⟨k - 1, by omega⟩
    rfl
  obtain ⟨M, hM⟩ : ∃ M, lab ++ be k 4 = M := ⟨_, rfl⟩
  obtain ⟨D, hD⟩ : ∃ D, Sha.tag key M = D := ⟨_, rfl⟩
  have HEND : Hid (decide (L.drop m = D) = true) := Lib.hid (by
    rw [hLs, hSk, hM, hD, List.drop_append_of_le_length (by rw [strm_length]; omega), List.drop_of_length_le (by rw [strm_length]; omega)]
    simp)
  obtain ⟨M1, hM1⟩ : ∃ M, lab ++ be 1 4 = M := ⟨_, rfl⟩
  obtain ⟨D1, hD1⟩ : ∃ D, Sha.tag key M1 = D := ⟨_, rfl⟩
  have hD1l : D1.length = 32 := by rw [← hD1]; exact Sha.tag_length _ _
  have HFST : Hid (decide (D1 = L.take 32) = true) := Lib.hid (by
    have h := strm_pre key lab 1 k (by omega)
    rw [← hLs] at h
    rw [show 32 * 1 = 32 from rfl] at h
    rw [h, strm, strm, List.nil_append, Nat.zero_add, hM1, hD1]
    simp)
  have HNE : Hid (decide (D1 = L.take 31) = false) := Lib.hid (by
    simp only [decide_eq_false_iff_not]
    intro e
    have := congrArg List.length e
    rw [hD1l, List.length_take] at this
    omega)
  have HDl : Hid (D.length = 32) := Lib.hid (by rw [← hD]; exact Sha.tag_length _ _)
  have hMl : M.length ≤ 104 := by rw [← hM, List.length_append, be_length]; omega
  have hM1l : M1.length ≤ 104 := by rw [← hM1, List.length_append, be_length]; omega
  have HBE : Hid (be k 4 = [0, 0, 0, UInt8.ofNat k]) := Lib.hid (be_small _ (by omega))
  have HL := Lib.hid hL
  have HLl := Lib.hid hLl
  have HM := Lib.hid hM
  have HD := Lib.hid hD
  have HM1 := Lib.hid hM1
  have HD1 := Lib.hid hD1
  have hK32 : 32 ≤ K := by omega
  have hK160 : K ≤ 160 := by omega
  have hL32 : 32 ≤ L.length := by omega
  have hmL : m ≤ L.length := by omega
  have T0 : True := trivial
  clear hL hLs hLl hM hD hM1 hD1 hD1l hSk hKk
  go_enter Try.func16, Try.ntmps16
  go_wp2_with (first | (go_at_call 52; go_must (refine (derive_any L (K : Int) _ key lab s _ HL HK.out (by omega) HLAB (by omega)).mono ?_; rintro e w1 ⟨v1, rfl, hb1, hx1⟩; obtain ⟨b1, o1, cap1, rfl, hcap1, hcm1, hbl1, _⟩ := hb1.pos (by omega); have HB1 := Lib.hid hb1; rw [HLl.out] at hcap1 HB1; rw [HLl.out]; have HX1 := Lib.hid hx1; clear hb1 hx1)) | (refine wpl_bytes rfl (.tmp 29) rfl s rfl lab HLAB.out (by omega) ?_; intro va wa hna; obtain ⟨A2, cap2, rfl, _, _, _, _⟩ := hna.bs.is; have HNA := Lib.hid hna; clear hna) | (go_at_call 47; go_must (refine (tag_two D M lab (be k 4) _ _ _ key _ _ (by simp) HM HD (Rd.ext HK.out ((HX1.out.trans HNA.out.ext).alloc _)) (Rd.ext HNA.out.bs ((Ext.refl wa).alloc _)) (four_bytes wa k (by omega) _ rfl) (by omega) (by omega)).mono ?_; rintro e w2 ⟨rfl, hx2⟩; have hx12 := (HNA.out.ext.alloc _).trans hx2; have HX2 := Lib.hid (HX1.out.trans hx12); have HB2 := Lib.hid (Rd.ext HB1.out hx12); have hbl2 : b1 < w2.heap.size := Nat.lt_of_lt_of_le hbl1 hx12.size; clear hx2 hx12)) | (refine wpl_alloc_agg rfl 27 rfl _ zero27.1 ?_) | (refine wpl_store27 rfl _ _ rfl w2.heap.size D (Sha.zeros 32) rfl rfl HDl.out (by simp [Sha.zeros]) (heap_alloc_last w2 _) ?_; intro w3 h3 hu3; have hx3 : Ext w2 w3 := ((Ext.refl w2).alloc _).upd_new hu3 (Nat.le_refl _); have H3 : Hid (Blk w3 w2.heap.size 27 D) := Lib.hid h3; have HX3 := Lib.hid (HX2.out.trans hx3); have HB3 := Lib.hid (Rd.ext HB2.out hx3); clear h3 hu3 hx3))
  have HEP : Hid (∀ w', Ext w3 w' → Bs w' (.slice (some ⟨b1, o1 + m, none⟩) (K - m) (cap1 - m)) (L.drop m)) := Lib.hid (fun w' hx' => Bs.from (Rd.ext HB3.out hx') m (K - m) HLl.out.symm (by omega) (by omega))
  refine wp_region_m (by kernel_rfl) (by kernel_rfl) ?_; try simp only [Act.put, List.setIfInBounds_toArray, List.set_cons_succ, List.set_cons_zero]
  repeat (refine gq rfl rfl rfl rfl (fun K hK => ?_); go_big_quiet_op; refine hK _ ?_; clear hK K)
  refine gx rfl rfl rfl rfl _ (fun x => exec_load27 _ rfl w2.heap.size rfl D HDl.out _ (Blk.ext H3.out (ext_ext w3 x))) ?_
  simp only [Act.put, List.setIfInBounds_toArray, List.set_cons_succ, List.set_cons_zero]
  refine gcp rfl rfl rfl rfl 50 #[Dig D] (fun _ => by go_simp) 48 rfl (BsR D) BsR.ext (fun x => (slice_any D HDl.out _).mono (fun e w' ⟨v, he, hn⟩ => ⟨v, he, hn.bs, hn.ext⟩)) ?_
  simp only [Act.put, List.setIfInBounds_toArray, List.set_cons_succ, List.set_cons_zero]
  refine gcx rfl rfl 49 (fun xs => #[.slice (some ⟨b1, o1 + m, none⟩) (K - m) (cap1 - m), xs 48]) (.bool true) (fun xs => rfl) (fun xs w => by simp only [fillM, Act.put, List.setIfInBounds_toArray, List.set_cons_succ, List.set_cons_zero]; go_simp) (fun xs x hk => (same_true _ _ (L.drop m) D _ (HEP.out _ (ext_ext w3 x)) (hk 48 (by decide) (by simp) _ rfl) HEND).mono (fun e w' ⟨he, hw⟩ => ⟨he, by rw [← hw]; exact Ext.refl _⟩)) ?_
  simp only [Act.put, List.setIfInBounds_toArray, List.set_cons_succ, List.set_cons_zero]
  repeat (refine gq rfl rfl rfl rfl (fun K hK => ?_); go_big_quiet_op; refine hK _ ?_; clear hK K)
  refine gm_end_at rfl [(48, BsR D)] rfl (fun xs x hk => ?_)
  clear hk
  simp only [fillM, Act.put, List.setIfInBounds_toArray, List.set_cons_succ, List.set_cons_zero]
  have HX4 := Lib.hid (HX3.out.trans (ext_ext w3 x))
  have HB4 := Lib.hid (Rd.ext HB3.out (ext_ext w3 x))
  have hbl4 : b1 < (w3.ext x).heap.size := Nat.lt_of_lt_of_le hbl2 (Nat.le_trans (by have := H3.out.lt; omega) (ext_ext w3 x).size)
  have HP32 := Lib.hid (Bs.pre HB4.out 32 (by omega))
  have HP31 := Lib.hid (Bs.pre HB4.out 31 (by omega))
  generalize xs 48 = v48
  generalize w3.ext x = w4 at *
  clear HEP HB1 HB2 HB3 H3 HX1 HX2 HX3 HNA hbl1 hbl2
  have T1 : True := trivial
  have T2 : True := trivial
  go_wp2_with (first | (refine wpl_bytes rfl (.tmp 55) rfl s rfl lab HLAB.out (by omega) ?_; intro vb wb hnb; obtain ⟨A5, cap5, rfl, _, _, _, _⟩ := hnb.bs.is; have HNB := Lib.hid hnb; clear hnb) | (go_at_call 48; clear T1; go_must (refine (check_two D1 M1 (L.take 32) lab (be 1 4) _ _ _ _ key _ _ (by simp) true HM1 HD1 HFST (Rd.ext HK.out ((HX4.out.trans HNB.out.ext).alloc _)) (Rd.ext HP32.out (HNB.out.ext.alloc _)) (Rd.ext HNB.out.bs ((Ext.refl wb).alloc _)) (four_bytes wb 1 (by omega) _ rfl) (by omega) (by omega)).mono ?_; rintro e w5 ⟨rfl, hx5⟩; have hx45 := (HNB.out.ext.alloc _).trans hx5; have HX5 := Lib.hid (HX4.out.trans hx45); have HP5 := Lib.hid (Rd.ext HP31.out hx45); clear hx5 hx45)) | (refine wpl_bytes_g rfl (.tmp 64) rfl s rfl lab HLAB.out (by omega) ?_; intro vc wc hnc; obtain ⟨A6, cap6, rfl, _, _, _, _⟩ := hnc.bs.is; have HNC := Lib.hid hnc; clear hnc) | (go_at_call 48; clear T2; go_must (refine (check_two D1 M1 (L.take 31) lab (be 1 4) _ _ _ _ key _ _ (by simp) false HM1 HD1 HNE (Rd.ext HK.out ((HX5.out.trans HNC.out.ext).alloc _)) (Rd.ext HP5.out (HNC.out.ext.alloc _)) (Rd.ext HNC.out.bs ((Ext.refl wc).alloc _)) (four_bytes wc 1 (by omega) _ rfl) (by omega) (by omega)).mono ?_; rintro e w6 ⟨rfl, hx6⟩; have hx56 := (HNC.out.ext.alloc _).trans hx6; have HX6 := Lib.hid (HX5.out.trans hx56); clear hx6 hx56)) | (go_at_call 48; go_must (refine (check_none _ key _ (Rd.ext HK.out HX6.out) (by omega)).mono ?_; rintro e w7 ⟨rfl, hx7⟩; have HX7 := Lib.hid (HX6.out.trans hx7); clear hx7)) | (go_at_call 45; go_must (refine (known3_any _).mono ?_; rintro e w8 ⟨rfl, hx8⟩; have HX8 := Lib.hid (HX7.out.trans hx8); clear hx8)))
  go_ret
  exact ⟨rfl, HX8.out⟩
theorem parts_any (kv : Value) (key : List UInt8) (s : ByteArray) (n : UInt8) (hs : s.size ≤ maxLen) (w : World) (hK : Bs w kv key) :
    Calls Try.prog 16 #[kv, .string s, B8 n] w fun e w' => e = .returned (.bool true) ∧ Ext w w' := parts_of kv key s n.toNat n.toNat_lt hs w hK
end Go.Proofs.Ytapojpjmeadabaa

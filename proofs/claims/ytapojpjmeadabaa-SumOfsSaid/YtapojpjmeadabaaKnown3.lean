/- sacristanlaw03.known: the tag of the chapter's example. -/
import Derived.Test.YtapojpjmeadabaaMac4
import Derived.Test.YtapojpjmeadabaaKnown
import Derived.Lib.SlBytesConst
namespace Go.Proofs.Ytapojpjmeadabaa
open Go.RowKit
set_option linter.unusedVariables false
set_option linter.unusedSimpArgs false
attribute [local go_sem] lt_ext cell?_ext frozen?_ext shape?_ext

def jK : List UInt8 := [74, 101, 102, 101]
def jA : List UInt8 := [119, 104, 97, 116, 32, 100, 111, 32, 121, 97, 32, 119, 97, 110, 116, 32]
def jB : List UInt8 := [102, 111, 114, 32, 110, 111, 116, 104, 105, 110, 103, 63]
theorem tag_jefe : (Sha.tag jK (jA ++ jB)).getD 0 0 = 91 ∧ (Sha.tag jK (jA ++ jB)).getD 1 0 = 220 ∧ (Sha.tag jK (jA ++ jB)).getD 31 0 = 67 := by decide +kernel
theorem jefe_cells (D : List UInt8) (hD : Hid (Sha.tag jK (jA ++ jB) = D)) (w : World) (g : Nat) (h : Blk w g 27 D) :
    w.cell? ⟨g, 0, none⟩ = some (.int .u8 91) ∧ w.cell? ⟨g, 1, none⟩ = some (.int .u8 220) ∧ w.cell? ⟨g, 31, none⟩ = some (.int .u8 67) := by
  have hl : D.length = 32 := by rw [← hD.out]; exact Sha.tag_length _ _
  obtain ⟨h0, h1, h2⟩ := tag_jefe
  rw [hD.out] at h0 h1 h2
  refine ⟨?_, ?_, ?_⟩
  · rw [h.cell 0 (by omega), h0]; rfl
  · rw [h.cell 1 (by omega), h1]; rfl
  · rw [h.cell 31 (by omega), h2]; rfl
theorem tag_two (D M : List UInt8) (l l' : List UInt8) (u u' kv : Value) (key : List UInt8) (w : World) (g : Nat) (hg : g = w.heap.size) (hM : Hid (l ++ l' = M)) (hD : Hid (Sha.tag key M = D)) (hK : Bs w kv key) (h : Bs w u l) (h' : Bs w u' l') (hk : key.length ≤ 2147483648) (hf : M.length ≤ 1073741824) :
    Calls Try.prog 47 #[kv, .slice (some ⟨g, 0, none⟩) 2 2] (w.alloc (.cells #[u, u'] 23)) fun e w' => e = .returned (Dig D) ∧ Ext w w' := by
  subst hg
  have h1 := tag_fl M kv _ key [u, u'] [l, l'] _ (Rd.ext hK ((Ext.refl w).alloc _)) (Rss.two w u u' l l' h h') hk (Lib.hid (by rw [← hM.out]; simp)) hf
  rw [hD.out] at h1
  exact h1.mono fun e w' ⟨he, hx⟩ => ⟨he, ((Ext.refl w).alloc _).trans hx⟩
theorem tag_one (D M : List UInt8) (u kv : Value) (key : List UInt8) (w : World) (g : Nat) (hg : g = w.heap.size) (hD : Hid (Sha.tag key M = D)) (hK : Bs w kv key) (h : Bs w u M) (hk : key.length ≤ 2147483648) (hf : M.length ≤ 1073741824) :
    Calls Try.prog 47 #[kv, .slice (some ⟨g, 0, none⟩) 1 1] (w.alloc (.cells #[u] 23)) fun e w' => e = .returned (Dig D) ∧ Ext w w' := by
  subst hg
  have h1 := tag_fl M kv _ key [u] [M] _ (Rd.ext hK ((Ext.refl w).alloc _)) (Rss.one w u M h) hk (Lib.hid (by simp)) hf
  rw [hD.out] at h1
  exact h1.mono fun e w' ⟨he, hx⟩ => ⟨he, ((Ext.refl w).alloc _).trans hx⟩
theorem check_one (D M tag : List UInt8) (u kv tv : Value) (key : List UInt8) (w : World) (g : Nat) (hg : g = w.heap.size) (b : Bool) (hD : Hid (Sha.tag key M = D)) (hb : Hid (decide (D = tag) = b)) (hK : Bs w kv key) (hT : Bs w tv tag) (h : Bs w u M) (hk : key.length ≤ 2147483648) (hf : M.length ≤ 1073741824) :
    Calls Try.prog 48 #[kv, tv, .slice (some ⟨g, 0, none⟩) 1 1] (w.alloc (.cells #[u] 23)) fun e w' => e = .returned (.bool b) ∧ Ext w w' := by
  subst hg
  have h1 := check_any M kv tv _ key tag [u] [M] _ (Rd.ext hK ((Ext.refl w).alloc _)) (Rd.ext hT ((Ext.refl w).alloc _)) (Rss.one w u M h) hk (Lib.hid (by simp)) hf
  rw [hD.out, hb.out] at h1
  exact h1.mono fun e w' ⟨he, hx⟩ => ⟨he, ((Ext.refl w).alloc _).trans hx⟩
set_option maxRecDepth 100000 in
set_option maxHeartbeats 1000000 in
theorem known3_of (M D : List UInt8) (hM : Hid (jA ++ jB = M)) (hML : Hid (M = [119, 104, 97, 116, 32, 100, 111, 32, 121, 97, 32, 119, 97, 110, 116, 32, 102, 111, 114, 32, 110, 111, 116, 104, 105, 110, 103, 63])) (hm : M.length ≤ 28) (hD : Hid (Sha.tag jK M = D)) (w : World) : Calls Try.prog 45 #[] w fun e w' => e = .returned (.bool true) ∧ Ext w w' := by
  have HDl : Hid (D.length = 32) := Lib.hid (by rw [← hD.out]; exact Sha.tag_length _ _)
  have HD2 : Hid (Sha.tag jK (jA ++ jB) = D) := Lib.hid (by rw [hM.out]; exact hD.out)
  have T0 : True := trivial
  go_enter Try.func45, Try.ntmps45
  go_wp2_with (first | (refine wpl_conv23 rfl (.tmp 2) rfl jK 4 rfl _ rfl (by decide) rfl ?_; intro wa va hba hxa; obtain ⟨A, cap, rfl, _, _, _, _⟩ := hba.is; have HBA := Lib.hid hba; have HXA := Lib.hid hxa; clear hba hxa) | (refine wpl_conv23 rfl (.tmp 4) rfl jA 16 rfl _ rfl (by decide) rfl ?_; intro wb vb hbb hxb; obtain ⟨A2, cap2, rfl, _, _, _, _⟩ := hbb.is; have HBB := Lib.hid hbb; have HXB := Lib.hid hxb; clear hbb hxb) | (refine wpl_conv23 rfl (.tmp 6) rfl jB 12 rfl _ rfl (by decide) rfl ?_; intro wc vc hbc hxc; obtain ⟨A3, cap3, rfl, _, _, _, _⟩ := hbc.is; have HBC := Lib.hid hbc; have HXC := Lib.hid hxc; clear hbc hxc) | (go_at_call 47; go_must (refine (tag_two D M jA jB _ _ _ jK _ _ rfl hM hD (Rd.ext HBA.out (HXB.out.trans HXC.out)) (Rd.ext HBB.out HXC.out) HBC.out (by decide) (by omega)).mono ?_; rintro e w1 ⟨rfl, hx1⟩; have HX1 := Lib.hid ((HXA.out.trans (HXB.out.trans HXC.out)).trans hx1); clear hx1)) | (refine wpl_alloc_agg rfl 27 rfl _ zero27.1 ?_) | (refine wpl_store27 rfl _ _ rfl w1.heap.size D (Sha.zeros 32) rfl rfl HDl.out (by simp [Sha.zeros]) (heap_alloc_last w1 _) ?_; intro w2 h2 hu2; have H2 : Hid (Blk w2 w1.heap.size 27 D) := Lib.hid h2; have hs2 : w1.heap.size < w2.heap.size := H2.out.lt; obtain ⟨c0, c1, c31⟩ := jefe_cells D HD2 w2 w1.heap.size h2; have HX2 := Lib.hid (HX1.out.trans (((Ext.refl w1).alloc _).upd_new hu2 (Nat.le_refl _))); clear h2 hu2) | (refine wpl_conv23 rfl (.tmp 24) rfl jK 4 rfl _ rfl (by decide) rfl ?_; intro wd vd hbd hxd; obtain ⟨A4, cap4, rfl, _, _, _, _⟩ := hbd.is; have HBD := Lib.hid hbd; have HXD := Lib.hid hxd; clear hbd hxd) | (refine wpl_conv23 rfl (.tmp 27) rfl M 28 (by rw [hML.out]; rfl) _ (by rw [hML.out]; rfl) (by omega) rfl ?_; intro we ve hbe hxe; obtain ⟨A5, cap5, rfl, _, _, _, _⟩ := hbe.is; have HBE := Lib.hid hbe; have HXE := Lib.hid hxe; clear hbe hxe) | (go_at_call 48; go_must (refine (check_one D M D _ _ _ jK _ _ rfl true hD (Lib.hid (by simp)) (Rd.ext HBD.out HXE.out) (Rd.ext (Blk.whole H2.out 32 32 HDl.out.symm (Nat.le_refl _) (by decide)) (HXD.out.trans HXE.out)) HBE.out (by decide) (by omega)).mono ?_; rintro e w3 ⟨rfl, hx3⟩; have HX3 := Lib.hid ((HX2.out.trans (HXD.out.trans HXE.out)).trans hx3); clear hx3)))
  go_ret
  exact ⟨rfl, HX3.out⟩
theorem known3_any (w : World) : Calls Try.prog 45 #[] w fun e w' => e = .returned (.bool true) ∧ Ext w w' :=
  known3_of (jA ++ jB) (Sha.tag jK (jA ++ jB)) (Lib.hid rfl) (Lib.hid rfl) (by decide) (Lib.hid rfl) w
end Go.Proofs.Ytapojpjmeadabaa

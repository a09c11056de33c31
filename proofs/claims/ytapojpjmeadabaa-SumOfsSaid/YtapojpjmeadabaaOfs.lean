/- sum.Of, sacristanref05.Of; both Adds of the reference. -/
import Derived.Test.YtapojpjmeadabaaAdds
import Derived.Test.YtapojpjmeadabaaKnown3
namespace Go.Proofs.Ytapojpjmeadabaa
open Go.RowKit
set_option linter.unusedVariables false
set_option linter.unusedSimpArgs false
attribute [local go_sem] lt_ext cell?_ext frozen?_ext shape?_ext

def atN (z : Int) : Nat := (IntKind.u64.wrap z).toNat
theorem atN_eq (z : Int) : (atN z : Int) = IntKind.u64.wrap z := by unfold atN; rw [IntKind.wrap_u64]; omega
theorem atN_le (z : Int) : atN z ≤ 18446744073709551615 := by have := atN_eq z; rw [IntKind.wrap_u64] at this; omega
/-- What a thing at a place comes to. -/
def ofD (key : List UInt8) (z : Int) (b : List UInt8) : List UInt8 := Sha.tag key (be (atN z) 8 ++ b)
theorem ofD_length (key : List UInt8) (z : Int) (b : List UInt8) : (ofD key z b).length = 32 := Sha.tag_length _ _
set_option maxRecDepth 100000 in
set_option maxHeartbeats 1000000 in
theorem of_any (kv bv : Value) (key b : List UInt8) (z : Int) (w : World) (hK : Bs w kv key) (hB : Bs w bv b) (hk : key.length ≤ 2147483648) (hb : b.length ≤ 1073741000) :
    Calls Try.prog 55 #[kv, .int .i64 z, bv] w fun e w' => e = .returned (Dig (ofD key z b)) ∧ Ext w w' := by
  obtain ⟨A0, cap0, rfl, _, _, _, _⟩ := hB.is
  have HK := Lib.hid hK
  have HB := Lib.hid hB
  clear hK hB
  obtain ⟨n, hn⟩ : ∃ n, atN z = n := ⟨_, rfl⟩
  have hn64 : n ≤ 18446744073709551615 := by rw [← hn]; exact atN_le z
  have hz : IntKind.u64.wrap z = (n : Int) := by rw [← hn, atN_eq]
  obtain ⟨D, hD⟩ : ∃ D, ofD key z b = D := ⟨_, rfl⟩
  obtain ⟨m, hm⟩ : ∃ m, be n 8 ++ b = m := ⟨_, rfl⟩
  have HDl : Hid (D.length = 32) := Lib.hid (by rw [← hD]; exact ofD_length _ _ _)
  have HT : Hid (Sha.tag key m = D) := Lib.hid (by rw [← hD, ← hm, ← hn]; rfl)
  have hml : m.length ≤ 1073741824 := by rw [← hm, List.length_append, be_length]; omega
  have HML := Lib.hid hml
  have HM : Hid (be n 8 ++ b = m) := Lib.hid hm
  rw [hD]
  clear hD hm hn hml
  have hR0 : Blk (w.alloc (.cells (row8 (Sha.zeros 32)) 27)) w.heap.size 27 (Sha.zeros 32) := heap_alloc_last w _
  have hw0 : Ext w (w.alloc (.cells (row8 (Sha.zeros 32)) 27)) := (Ext.refl w).alloc _
  have HR0 := Lib.hid hR0
  have HW0 := Lib.hid hw0
  have TA : True := trivial
  clear hR0 hw0
  go_enter Try.func55, Try.ntmps55
  go_wp2_with (first | (refine wpl_alloc_agg rfl 27 rfl _ zero27.1 ?_) | (go_at_call 95; clear TA; go_must (refine (cput_any n hn64 8 (by omega) (by omega) _).mono ?_; rintro e w1 ⟨v1, rfl, hn1⟩; obtain ⟨A1, c1, e1, _⟩ := hn1.bs.is; rw [be_length] at e1; subst e1; have HN1 := Lib.hid hn1; have TB : True := trivial; clear hn1)) | (go_at_call 47; clear TB; go_must (refine (tag_two D m (be n 8) b _ _ _ key w1 _ rfl HM HT (Rd.ext HK.out (HW0.out.trans HN1.out.ext)) (by have h := HN1.out.bs; exact h) (Rd.ext HB.out (HW0.out.trans HN1.out.ext)) hk HML.out).mono ?_; rintro e w2 ⟨rfl, hx2⟩; have HX2 := Lib.hid (HW0.out.trans (HN1.out.ext.trans hx2)); have HR2 := Lib.hid (Blk.ext HR0.out (HN1.out.ext.trans hx2)); clear hx2)) | (refine wpl_store27 rfl _ _ rfl w.heap.size D (Sha.zeros 32) rfl rfl HDl.out (by simp [Sha.zeros]) HR2.out ?_; intro w8 h8 hu8; have H8 := Lib.hid h8; have HX8 := Lib.hid (HX2.out.upd_new hu8 (Nat.le_refl _)); clear h8 hu8))
  exact ret27 rfl w.heap.size D HDl.out rfl H8.out rfl ⟨rfl, HX8.out⟩
set_option maxRecDepth 100000 in
set_option maxHeartbeats 1000000 in
theorem rof_any (kv bv : Value) (key b : List UInt8) (z : Int) (w : World) (hK : Bs w kv key) (hB : Bs w bv b) (hk : key.length ≤ 2147483648) (hb : b.length ≤ 1073741000) :
    Calls Try.prog 56 #[kv, .int .i64 z, bv] w fun e w' => e = .returned (Dig (ofD key z b)) ∧ Ext w w' := by
  have HK := Lib.hid hK
  have HB := Lib.hid hB
  clear hK hB
  obtain ⟨n, hn⟩ : ∃ n, atN z = n := ⟨_, rfl⟩
  have hn64 : n ≤ 18446744073709551615 := by rw [← hn]; exact atN_le z
  have hz : IntKind.u64.wrap z = (n : Int) := by rw [← hn, atN_eq]
  obtain ⟨D, hD⟩ : ∃ D, ofD key z b = D := ⟨_, rfl⟩
  have HDl : Hid (D.length = 32) := Lib.hid (by rw [← hD]; exact ofD_length _ _ _)
  have HT : Hid (Sha.tag key (be n 8 ++ b) = D) := Lib.hid (by rw [← hD, ← hn]; rfl)
  have HP : Hid ((be n 8).length = 8) := Lib.hid (be_length _ _)
  rw [hD]
  clear hD hn
  obtain ⟨p, hp⟩ : ∃ p, be n 8 = p := ⟨_, rfl⟩
  rw [hp] at HT HP
  have HPP := Lib.hid hp
  clear hp
  have hpl : p.length ≤ 8 := Nat.le_of_eq HP.out
  have hR0 : Blk (w.alloc (.cells (row8 (Sha.zeros 32)) 27)) w.heap.size 27 (Sha.zeros 32) := heap_alloc_last w _
  have hw0 : Ext w (w.alloc (.cells (row8 (Sha.zeros 32)) 27)) := (Ext.refl w).alloc _
  have HR0 := Lib.hid hR0
  have HW0 := Lib.hid hw0
  have TA : True := trivial
  clear hR0 hw0
  go_enter Try.func56, Try.ntmps56
  go_wp2_with (first | (refine wpl_alloc_agg rfl 27 rfl _ zero27.1 ?_) | (go_at_call 79; clear TA; go_must (refine (put_any n hn64 8 (by omega) (by omega) _).mono ?_; rintro e w1 ⟨v1, rfl, hn1⟩; rw [HPP.out] at hn1; have HN1 := Lib.hid hn1; have TB : True := trivial; clear hn1)) | (at_builtin; clear TB; go_must (refine wpList_append_bs rfl _ _ rfl _ rfl HN1.out.own _ rfl (Rd.ext HB.out (HW0.out.trans HN1.out.ext)) (by omega) ?_; intro v2 w2 ho2 hg2 hf2; have HN2 := Lib.hid (HN1.out.app ho2 hg2 hf2); have TC : True := trivial; clear ho2 hg2 hf2)) | (go_at_call 46; clear TC; go_must (refine (rtag_any _ _ key (p ++ b) _ (Rd.ext HK.out (HW0.out.trans HN2.out.ext)) HN2.out.bs hk (by rw [List.length_append]; omega)).mono ?_; rintro e w3 ⟨rfl, hx3⟩; rw [HT.out]; have HX2 := Lib.hid (HW0.out.trans (HN2.out.ext.trans hx3)); have HR2 := Lib.hid (Blk.ext HR0.out (HN2.out.ext.trans hx3)); clear hx3)) | (refine wpl_store27 rfl _ _ rfl w.heap.size D (Sha.zeros 32) rfl rfl HDl.out (by simp [Sha.zeros]) HR2.out ?_; intro w8 h8 hu8; have H8 := Lib.hid h8; have HX8 := Lib.hid (HX2.out.upd_new hu8 (Nat.le_refl _)); clear h8 hu8))
  exact ret27 rfl w.heap.size D HDl.out rfl H8.out rfl ⟨rfl, HX8.out⟩
end Go.Proofs.Ytapojpjmeadabaa

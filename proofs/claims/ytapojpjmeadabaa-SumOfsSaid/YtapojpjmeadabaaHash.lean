/- sha.Hash: what a Hash was told; Write. -/
import Derived.Test.YtapojpjmeadabaaTake
import Derived.Test.YtapojpjmeadabaaSlice
import Derived.WalkMore
import Derived.Deep.DeepMust
namespace Go.Proofs.Ytapojpjmeadabaa
open Go.RowKit
set_option linter.unusedVariables false
set_option linter.unusedSimpArgs false
attribute [local go_sem] lt_ext cell?_ext frozen?_ext shape?_ext

/-- The cells of a Hash that has taken the blocks of p, with 'rv' for what is left, told 'n' bytes in all. -/
abbrev hobj (p : List UInt8) (rv : Value) (n : Nat) (kb : Nat) : Obj :=
  .cells (hcells (Sha.foldN (p.length / 64) Sha.init p).toList rv (.int .u64 (n : Int)) (.pointer (some ⟨kb, 0, none⟩))) 104 (0, 0)
/-- At block hb lies a Hash that was told m; 'rv' is what it keeps of it. -/
structure HashAt (w : World) (hb kb : Nat) (rv : Value) (m : List UInt8) : Prop where
  ex : ∃ p r, m = p ++ r ∧ p.length % 64 = 0 ∧ r.length < 64 ∧ w.heap[hb]? = some (hobj p rv m.length kb) ∧ OwnB w rv r
  k : w.heap[kb]? = some (.cells (row32 64 Sha.K) 98 (0, 0))
  le : m.length ≤ 4294967296

theorem HashAt.lt {w : World} {hb kb : Nat} {rv : Value} {m : List UInt8} (h : HashAt w hb kb rv m) : hb < w.heap.size := by
  obtain ⟨p, r, _, _, _, hh, _⟩ := h.ex
  exact (Array.getElem?_eq_some_iff.1 hh).1
theorem HashAt.klt {w : World} {hb kb : Nat} {rv : Value} {m : List UInt8} (h : HashAt w hb kb rv m) : kb < w.heap.size := (Array.getElem?_eq_some_iff.1 h.k).1
theorem HashAt.rlt {w : World} {hb kb g : Nat} {rv : Value} {m : List UInt8} (h : HashAt w hb kb rv m) (hg : rv.ownBlock = some g) : g < w.heap.size := by
  obtain ⟨p, r, _, _, _, hh, ho⟩ := h.ex
  exact Own.lt ho hg
theorem HashAt.chg {w w' : World} {hb kb : Nat} {rv : Value} {m : List UInt8} {S : Nat → Prop} (h : HashAt w hb kb rv m) (hc : Chg w w' S) (h1 : ¬ S hb) (h2 : ¬ S kb) (h3 : ∀ g, rv.ownBlock = some g → ¬ S g) : HashAt w' hb kb rv m := by
  obtain ⟨p, r, q1, q2, q3, hh, ho⟩ := h.ex
  exact ⟨⟨p, r, q1, q2, q3, (hc.block _ (Array.getElem?_eq_some_iff.1 hh).1 h1).trans hh, Own.chg ho hc h3⟩, (hc.block _ (Array.getElem?_eq_some_iff.1 h.k).1 h2).trans h.k, h.le⟩
theorem HashAt.ext {w w' : World} {hb kb : Nat} {rv : Value} {m : List UInt8} (h : HashAt w hb kb rv m) (hx : Ext w w') : HashAt w' hb kb rv m :=
  h.chg (Chg.of_ext hx fun _ => False) id id fun _ _ => id
/-- What a Write may turn. -/
def hset (hb : Nat) (rv : Value) : Nat → Prop := fun k => k = hb ∨ some k = rv.ownBlock

/-- No cell of a Hash is a byte. -/
theorem hobj_no_byte {w : World} {hb n kb i : Nat} {p : List UInt8} {rv : Value} (hh : w.heap[hb]? = some (hobj p rv n kb)) (hr : ∃ A l c, rv = .slice A l c) (x : UInt8) : w.cell? ⟨hb, i, none⟩ ≠ some (B8 x) := by
  obtain ⟨A, l, c, rfl⟩ := hr
  rw [cell_of_row _ _ _ _ _ _ hh]
  simp only [hcells, List.getElem?_toArray]
  intro h
  have hm := List.mem_of_getElem? h
  simp only [List.mem_append, List.mem_map, List.mem_cons, List.mem_nil_iff, or_false] at hm
  rcases hm with ⟨y, _, hy⟩ | hm | hm | hm
  · cases hy
  · cases hm
  · cases hm
  · cases hm
theorem Bs.ne_hash {w : World} {hb n kb : Nat} {p : List UInt8} {rv bv : Value} {l r : List UInt8} (hB : Bs w bv l) (hh : w.heap[hb]? = some (hobj p rv n kb)) (ho : OwnB w rv r) :
    ∀ b o c, bv = .slice (some ⟨b, o, none⟩) l.length c → 0 < l.length → b ≠ hb := by
  intro b o c hv hl e
  subst e
  obtain ⟨b', o', c', hv', _, _, _, hcell⟩ := hB.pos hl
  rw [hv] at hv'
  injection hv' with e1 e2 e3
  injection e1 with e1
  injection e1 with e4 e5
  subst e4
  refine hobj_no_byte hh ?_ _ (hcell 0 hl)
  obtain ⟨A, cap, h, _⟩ := ho.rd.is
  exact ⟨A, _, cap, h⟩

theorem hobj_set8 {w : World} {hb n kb : Nat} {p : List UInt8} {rv v : Value} (hh : w.heap[hb]? = some (hobj p rv n kb)) : (w.setCell ⟨hb, 8, none⟩ v).heap[hb]? = some (hobj p v n kb) := by
  rw [heap_setCell_same _ _ _ _ _ _ hh]
  simp [hcells, Sha.St.toList]
theorem hobj_cell8 {w : World} {hb n kb : Nat} {p : List UInt8} {rv : Value} (hh : w.heap[hb]? = some (hobj p rv n kb)) : w.cell? ⟨hb, 8, none⟩ = some rv := by rw [cell_of_row _ _ _ _ _ _ hh]; rfl
/-- In the middle of a Write: p is taken, r is left. -/
structure WMid (w : World) (hb kb : Nat) (rv : Value) (ml p r : List UInt8) (v : Value) (wr : World) : Prop where
  eq : ml = p ++ r
  mod : p.length % 64 = 0
  obj : wr.heap[hb]? = some (hobj p v ml.length kb)
  own : OwnB wr v r
  chg : Chg w wr (hset hb rv)
  same : v.ownBlock = rv.ownBlock ∨ ∀ g, v.ownBlock = some g → w.heap.size ≤ g
  k : wr.heap[kb]? = some (.cells (row32 64 Sha.K) 98 (0, 0))
theorem WMid.ne {w : World} {hb kb : Nat} {rv : Value} {ml p r : List UInt8} {v : Value} {wr : World} (h : WMid w hb kb rv ml p r v wr) : kb ≠ hb := by
  intro e
  have h1 := h.k
  rw [e, h.obj] at h1
  injection h1 with e1
  injection e1 with e2 e3
  cases e3
/-- A block has been taken, what is left lies in new memory. -/
theorem WMid.next {w : World} {hb kb : Nat} {rv : Value} {ml p r : List UInt8} {v : Value} {wr w2 w3 : World} (h : WMid w hb kb rv ml p r v wr) (hr : 64 ≤ r.length)
    (h2 : w2.heap[hb]? = some (.cells (hcells (Sha.block (Sha.foldN (p.length / 64) Sha.init p) (r.take 64)).toList v (.int .u64 (ml.length : Int)) (.pointer (some ⟨kb, 0, none⟩))) 104 (0, 0))) (hu : Upd wr w2 hb)
    (v3 : Value) (ho3 : OwnB w3 v3 (r.drop 64)) (hx : Ext w2 w3) (hn3 : ∀ g, v3.ownBlock = some g → w2.heap.size ≤ g) :
    WMid w hb kb rv ml (p ++ r.take 64) (r.drop 64) v3 (w3.setCell ⟨hb, 8, none⟩ v3) := by
  have hhb : hb < w2.heap.size := (Array.getElem?_eq_some_iff.1 h2).1
  have hhr : hb < wr.heap.size := (Array.getElem?_eq_some_iff.1 h.obj).1
  have hpl : (p ++ r.take 64).length = p.length + 64 := by simp; omega
  have hd : (p ++ r.take 64).length / 64 = p.length / 64 + 1 := by omega
  have hf := Sha.foldN_snoc (p.length / 64) Sha.init p (r.take 64) (by have := h.mod; omega) (by simp; omega)
  have hobj3 : w3.heap[hb]? = some (hobj (p ++ r.take 64) v ml.length kb) := by
    rw [hx.block hhb, h2]
    simp only [hobj, hd, hf]
  have hu3 : Chg wr (w3.setCell ⟨hb, 8, none⟩ v3) (· = hb) := Chg.of_upd (((hu.trans (Upd.of_ext hx hb))).setCell (.inl rfl) _)
  have hu34 : Upd w3 (w3.setCell ⟨hb, 8, none⟩ v3) hb := (Upd.of_ext (Ext.refl _) hb).setCell (.inl rfl) _
  have hnb : v3.ownBlock ≠ some hb := fun e => by have := hn3 _ e; omega
  refine ⟨by rw [h.eq, List.append_assoc, List.take_append_drop], by rw [hpl]; have := h.mod; omega, hobj_set8 hobj3, Own.keep ho3 hu34 hnb, h.chg.trans hu3 fun i _ e => .inl e, .inr fun g hg => ?_, ?_⟩
  · have := hn3 g hg
    exact Nat.le_trans h.chg.size (Nat.le_trans hu.size this)
  · rw [hu3.block _ (Array.getElem?_eq_some_iff.1 h.k).1 h.ne]
    exact h.k
/-- At the start: all of l has been appended. -/
theorem WMid.start {w w0 w1 : World} {hb kb : Nat} {rv v : Value} {m l p r : List UInt8} (hm : m = p ++ r) (hp : p.length % 64 = 0) (hb0 : hb < w.heap.size)
    (hk : w.heap[kb]? = some (.cells (row32 64 Sha.K) 98 (0, 0))) (hu : Upd w w0 hb) (hg : Grew w0 w1 rv) (hh : w1.heap[hb]? = some (hobj p rv (m ++ l).length kb)) (ho : OwnB w1 v (r ++ l))
    (hf : v.ownBlock = rv.ownBlock ∨ ∀ g, v.ownBlock = some g → w0.heap.size ≤ g) (hN : rv.ownBlock ≠ some hb) (hKN : rv.ownBlock ≠ some kb) (hKE : kb ≠ hb) :
    WMid w hb kb rv (m ++ l) p (r ++ l) v (w1.setCell ⟨hb, 8, none⟩ v) := by
  have hu3 : Upd w1 (w1.setCell ⟨hb, 8, none⟩ v) hb := (Upd.of_ext (Ext.refl w1) hb).setCell (.inl rfl) _
  have hkh : kb < w.heap.size := (Array.getElem?_eq_some_iff.1 hk).1
  have hc : Chg w (w1.setCell ⟨hb, 8, none⟩ v) (hset hb rv) :=
    (Chg.trans (S := hset hb rv) ⟨hu.os, hu.tape, hu.output, hu.size, fun k hk hn => hu.old hk fun e => hn (.inl e)⟩ (Chg.of_grew hg) fun _ _ e => .inr e).trans (Chg.of_upd hu3) fun _ _ e => .inl e
  refine ⟨by rw [hm, List.append_assoc], hp, hobj_set8 hh, Own.keep ho hu3 ?_, hc, ?_, ?_⟩
  · rcases hf with h | h
    · rw [h]; exact hN
    · intro e
      have := h _ e
      have := hu.size
      omega
  · rcases hf with h | h
    · exact .inl h
    · exact .inr fun g hg' => Nat.le_trans hu.size (h g hg')
  · rw [hc.block kb hkh]
    · exact hk
    · rintro (e | e)
      · exact hKE e
      · exact hKN e.symm
/-- At the end of a Write. -/
theorem WMid.done {w : World} {hb kb : Nat} {rv : Value} {ml p r : List UInt8} {v : Value} {wr : World} (h : WMid w hb kb rv ml p r v wr) (hr : r.length < 64) (hle : ml.length ≤ 4294967296) :
    ∃ rv', HashAt wr hb kb rv' ml ∧ Chg w wr (hset hb rv) ∧ (rv'.ownBlock = rv.ownBlock ∨ ∀ g, rv'.ownBlock = some g → w.heap.size ≤ g) :=
  ⟨v, ⟨⟨p, r, h.eq, h.mod, hr, h.obj, h.own⟩, h.k, hle⟩, h.chg, h.same⟩

set_option maxRecDepth 100000 in
set_option maxHeartbeats 1000000 in
theorem write_any (hb kb : Nat) (rv bv : Value) (m l : List UInt8) (w : World) (hH : HashAt w hb kb rv m) (hB : Bs w bv l) (hle : m.length + l.length ≤ 4294967296) :
    Calls Try.prog 33 #[.pointer (some ⟨hb, 0, none⟩), bv] w fun e w' => e = .returned (.tuple #[]) ∧
      ∃ rv', HashAt w' hb kb rv' (m ++ l) ∧ Chg w w' (hset hb rv) ∧ (rv'.ownBlock = rv.ownBlock ∨ ∀ g, rv'.ownBlock = some g → w.heap.size ≤ g) := by
  have hbh := hH.lt
  have hkh := hH.klt
  obtain ⟨p, r, hm, hp, hr, hh, ho⟩ := hH.ex
  have hkk := hH.k
  have hkne : kb ≠ hb := by
    rintro rfl
    rw [hkk] at hh
    injection hh with e1
    injection e1 with e2 e3
    cases e3
  have hne := hB.ne_hash hh ho
  obtain ⟨A, cap, rfl, hcap, hcm, hA, hAc⟩ := hB.is
  have hon := Own.not_block ho hh (by decide)
  have hkn : rv.ownBlock ≠ some kb := Own.not_block ho hkk (by decide)
  have g8 : w.cell? ⟨hb, 8, none⟩ = some rv := by rw [cell_of_row _ _ _ _ _ _ hh]; rfl
  have g9 : w.cell? ⟨hb, 9, none⟩ = some (.int .u64 (m.length : Int)) := by rw [cell_of_row _ _ _ _ _ _ hh]; rfl
  have gf : ∀ i, w.frozen? ⟨hb, i, none⟩ = false := fun i => frozen_of_row _ _ _ _ _ hh
  -- the world behind 'h.long += ..'
  have hu1 : Upd w (w.setCell ⟨hb, 9, none⟩ (.int .u64 ((m.length : Int) + (l.length : Int)))) hb := (Upd.of_ext (Ext.refl w) hb).setCell (.inl rfl) _
  have hh1 : (w.setCell ⟨hb, 9, none⟩ (.int .u64 ((m.length : Int) + (l.length : Int)))).heap[hb]? = some (hobj p rv (m ++ l).length kb) := by
    rw [heap_setCell_same _ _ _ _ _ _ hh]
    have : ((m.length : Int) + (l.length : Int)) = (((m ++ l).length : Nat) : Int) := by simp
    rw [this]
    rfl
  have hrl : r.length ≤ m.length := by rw [hm]; simp
  have HH1 := Lib.hid hh1
  have HU1 := Lib.hid hu1
  have HO1 := Lib.hid (Own.keep ho hu1 hon)
  have HB1 := Lib.hid (Rd.chg hB (Chg.of_upd hu1) hne)
  have HK := Lib.hid hkk
  have HO := Lib.hid ho
  have HM := Lib.hid hm
  have HP := Lib.hid hp
  have HN := Lib.hid hon
  have HKN := Lib.hid hkn
  have HKE := Lib.hid hkne
  clear hh hkk ho hB hm hp hH hAc hA hne hu1 hh1 hon hkn hkne
  go_enter Try.func33, Try.ntmps33
  go_step3
  go_wp2_with (at_builtin; go_must (refine wpList_append_rd ei23 rfl _ _ rfl _ rfl HO1.out _ rfl HB1.out (one_bytes l) (by omega) ?_; intro v1 w1 ho1 hg1 hf1; obtain ⟨A1, c1, hv1, _⟩ := ho1.rd.is; subst hv1; have hh2 : w1.heap[hb]? = _ := ((Chg.of_grew hg1).block hb (by simpa using hbh) (fun e => HN.out e.symm)).trans HH1.out; have g82 : w1.cell? ⟨hb, 8, none⟩ = some rv := (by rw [cell_of_row _ _ _ _ _ _ hh2]; rfl); have gf2 : w1.frozen? ⟨hb, 8, none⟩ = false := frozen_of_row _ _ _ _ _ hh2; have HO2 := Lib.hid ho1; have HG2 := Lib.hid hg1; have HF2 := Lib.hid hf1; have HH2 := Lib.hid hh2; clear ho1 hg1 hf1 hh2 g8 g9 gf))
  go_step3
  go_wp2_with fail
  have hstart : WMid w hb kb rv (m ++ l) p (r ++ l) (.slice A1 (r.length + l.length) c1) (w1.setCell ⟨hb, 8, none⟩ (.slice A1 (r.length + l.length) c1)) := by
    exact WMid.start HM.out HP.out hbh HK.out HU1.out HG2.out HH2.out (by have h := HO2.out; simpa [OwnB] using h) HF2.out HN.out HKN.out HKE.out
  go_loopg [] (r ++ l).length (fun kq wr => ∃ p r v, WMid w hb kb rv (m ++ l) p r v wr ∧ r.length = kq)
  case atStart => exact ⟨p, _, _, hstart, rfl⟩
  case round =>
    clear hstart HO2 HG2 HF2 HH2 HH1 HU1 HO1 HB1 HK HO HM HP HN HKN HKE g82 gf2
    obtain ⟨p, r, v, hmid, hrk⟩ := hrel
    have HMID := Lib.hid hmid
    have HRK := Lib.hid hrk
    obtain ⟨A2, c2, hv2, hn2, hc2, _⟩ := hmid.own.rd.is
    subst hv2
    have g8 := hobj_cell8 hmid.obj
    have hbr : hb < wr.heap.size := (Array.getElem?_eq_some_iff.1 hmid.obj).1
    have HRD := Lib.hid hmid.own.rd
    clear hmid hrk
    by_cases hlt : r.length < 64
    · go_wp2_with fail
      rw [Exit.noGoto_normal]
      go_end0
      exact ⟨rfl, WMid.done HMID.out hlt (by simpa using hle)⟩
    · have hl64 : ((r.take 64).drop 0).length = 64 := by simp; omega
      have hrle : r.length ≤ 4294967296 := by
        have := congrArg List.length HMID.out.eq
        simp at this
        omega
      have hnb := Lib.hid (Own.not_block HMID.out.own HMID.out.obj (by decide))
      go_wp2_with (first
        | (go_at_call 83; go_must (refine (take_any _ ((r.take 64).drop 0) hl64 hb b1 o1 cp1 kb _ _ _ hb1 HMID.out.obj HMID.out.k (fun i hi => HC1.out i (Nat.lt_of_lt_of_eq hi hl64.symm))).mono ?_; rintro e w2 ⟨rfl, h2, hu2⟩; have g82 : w2.cell? ⟨hb, 8, none⟩ = some (.slice A2 r.length c2) := (by rw [cell_of_row _ _ _ _ _ _ h2]; rfl); have HB2 := Lib.hid (show Bs w2 (.slice A2 r.length c2) r from Own.rd (Own.keep HMID.out.own hu2 hnb.out)); have H2 := Lib.hid h2; have HU2 := Lib.hid hu2; clear h2 hu2))
        | (refine wpList_slice_bs rfl _ none _ rfl _ rfl HRD.out 0 64 (.inl ⟨rfl, rfl⟩) (.inr rfl) (by omega) (by omega) ?_; intro v1 hv1; obtain ⟨b1, o1, cp1, hv, _, _, hb1, hcell⟩ := hv1.pos (by omega); rw [hl64] at hv; subst hv; have HC1 := Lib.hid hcell; clear hcell hv1)
        | (refine wpList_slice_bs rfl _ _ none rfl _ rfl HB2.out 64 r.length (.inr rfl) (.inl ⟨rfl, rfl⟩) (by omega) (by omega) ?_; intro v2 hv2; have HV2 := Lib.hid hv2; clear hv2)
        | (at_builtin; go_must (refine wpList_append_nil_bs rfl _ rfl _ rfl HV2.out (by simp; omega) ?_; intro v3 w3 ho3 hx3 hf3; rw [List.take_length] at ho3; obtain ⟨A3, c3, hv3, _⟩ := ho3.rd.is; rw [List.length_drop] at hv3; subst hv3; have hh3 := (hx3.block (Array.getElem?_eq_some_iff.1 H2.out).1).trans H2.out; have g83 : w3.cell? ⟨hb, 8, none⟩ = some (.slice A2 r.length c2) := (by rw [cell_of_row _ _ _ _ _ _ hh3]; rfl); have gf3 : w3.frozen? ⟨hb, 8, none⟩ = false := frozen_of_row _ _ _ _ _ hh3; have HO3 := Lib.hid ho3; have HX3 := Lib.hid hx3; have HF3 := Lib.hid hf3; clear hh3 ho3 hx3 hf3)))
      go_roundg (r.drop 64).length
      case measure => rw [← HRK.out]; simp; omega
      case rel =>
        refine ⟨p ++ r.take 64, r.drop 64, _, WMid.next HMID.out (by omega) H2.out HU2.out _ HO3.out HX3.out HF3.out, rfl⟩
end Go.Proofs.Ytapojpjmeadabaa

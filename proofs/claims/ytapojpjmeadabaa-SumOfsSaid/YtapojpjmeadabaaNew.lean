/- sha.New, sha.Hash.Copy. -/
import Derived.Test.YtapojpjmeadabaaHash
import Derived.Laws.Build
namespace Go.Proofs.Ytapojpjmeadabaa
open Go.RowKit
set_option linter.unusedVariables false
set_option linter.unusedSimpArgs false
attribute [local go_sem] lt_ext cell?_ext frozen?_ext shape?_ext

set_option maxRecDepth 100000 in
set_option maxHeartbeats 1000000 in
theorem first_any (w : World) :
    Calls Try.prog 82 #[] w fun e w' => e = .returned (.agg (s8 Sha.init)) ∧ Ext w w' := by
  go_enter Try.func82, Try.ntmps82
  go_wp2
  refine bodyPost_ret (v := .agg #[.int .u32 1779033703, .int .u32 3144134277, .int .u32 1013904242, .int .u32 2773480762, .int .u32 1359893119, .int .u32 2600822924, .int .u32 528734635, .int .u32 1541459225]) (by simp [results, Try.results82, go_sem]) rfl ⟨?_, (Ext.refl w).alloc _⟩
  congr 1
set_option maxRecDepth 100000 in
set_option maxHeartbeats 1000000 in
theorem rounds_any (w : World) :
    Calls Try.prog 81 #[] w fun e w' => e = .returned (.agg (row32 64 Sha.K)) ∧ Ext w w' := by
  go_enter Try.func81, Try.ntmps81
  go_wp2_with (first
    | (refine wpl_alloc_agg rfl 98 rfl _ zero98.1 ?_)
    | (refine wpList_build rfl 98 _ rfl (by kernel_rfl) ?_)
    | (refine wpl_store98 rfl _ _ rfl w.heap.size Sha.K [] rfl (by kernel_rfl) (by decide) (by decide) (heap_alloc_last w _) ?_))
  exact ret98 rfl w.heap.size Sha.K (by decide) rfl (setRow_heap _ _ _ _ _ _ (heap_alloc_last w _)) rfl ⟨rfl, ((Ext.refl w).alloc _).setRow_new (Nat.le_refl _) _⟩
set_option maxRecDepth 100000 in
set_option maxHeartbeats 1000000 in
/-- New: a Hash that was told nothing, in new memory. -/
theorem new_any (w : World) :
    Calls Try.prog 32 #[] w fun e w' => ∃ hb kb, e = .returned (.pointer (some ⟨hb, 0, none⟩)) ∧ HashAt w' hb kb (.slice none 0 0) [] ∧ Ext w w' ∧ w.heap.size ≤ hb ∧ w.heap.size ≤ kb := by
  go_enter Try.func32, Try.ntmps32
  go_wp2_with (first
    | (go_at_call 81; go_must (refine (rounds_any _).mono ?_; rintro e w1 ⟨rfl, hx1⟩; have HX1 := Lib.hid hx1; clear hx1))
    | (go_at_call 82; go_must (refine (first_any _).mono ?_; rintro e w2 ⟨rfl, hx2⟩; have HX2 := Lib.hid hx2; clear hx2))
    | (refine wpl_alloc_agg rfl 98 rfl _ zero98.1 ?_)
    | (refine wpl_store98 rfl _ _ rfl w1.heap.size Sha.K [] rfl rfl (by decide) (by decide) (heap_alloc_last w1 _) ?_)
    | (refine wpList_build rfl 104 _ rfl (by kernel_rfl) ?_))
  have e104 : (Try.prog.built 104 [(0, Value.agg (s8 Sha.init)), (3, Value.pointer (some { block := w1.heap.size, off := 0 }))]).getD #[] = hcells Sha.init.toList (.slice none 0 0) (.int .u64 0) (.pointer (some ⟨w1.heap.size, 0, none⟩)) := by kernel_rfl
  rw [e104]
  go_ret
  have hk1 : ((w1.alloc (.cells (row32 64 []) 98)).setRow w1.heap.size (row32 64 Sha.K)).heap[w1.heap.size]? = some (.cells (row32 64 Sha.K) 98 (0, 0)) := setRow_heap _ _ _ _ _ _ (heap_alloc_last w1 _)
  have hs1 : w1.heap.size < ((w1.alloc (.cells (row32 64 []) 98)).setRow w1.heap.size (row32 64 Sha.K)).heap.size := (Array.getElem?_eq_some_iff.1 hk1).1
  have hx : Ext w w2 := (((HX1.out).alloc _).setRow_new (by simpa using HX1.out.size) _).trans HX2.out
  refine ⟨w2.heap.size, w1.heap.size, rfl, ⟨⟨[], [], rfl, rfl, by decide, heap_alloc_last w2 _, Own.nil _ _ _⟩, ?_, by decide⟩, hx.alloc _, hx.size, HX1.out.size⟩
  rw [heap_alloc_old w2 _ (Nat.lt_of_lt_of_le hs1 HX2.out.size), HX2.out.block hs1]
  exact hk1

/-! ### The whole struct of a Hash -/
theorem zero104 : (∀ w, (zeroValue 104).run Try.prog w = .ok (.agg (hcells (List.replicate 8 0) (.slice none 0 0) (.int .u64 0) (.pointer none))) w) ∧ (Try.prog.info? 104).map (·.size) = some 11 := zero_of_info (by kernel_rfl)
theorem size104 (L : List (BitVec 32)) (rest long kp : Value) (h : L.length = 8) : (Try.prog.info? 104).map (·.size) = some (hcells L rest long kp).size := by
  have : (hcells L rest long kp).size = 11 := by simp [hcells, h]
  rw [this]
  exact zero104.2
theorem wpl_load104 {ops : Array Oper} {rest : List Oper} {o : Oper} {a : Act} {w : World} {Q : Exit → Act → World → Prop} (hgd : o.guard = none) (x : Operand) (ho : o.op = .load 104 x)
    (g : Nat) (hx : a.eval x = .pointer (some ⟨g, 0, none⟩)) (L : List (BitVec 32)) (rv long kp : Value) (hL : L.length = 8) (hg : w.heap[g]? = some (.cells (hcells L rv long kp) 104 (0, 0)))
    (h : wpList Try.prog ops Q rest (a.put o.dst (.agg (hcells L rv long kp))) w) : wpList Try.prog ops Q (o :: rest) a w :=
  wpList_load_row hgd 104 x ho g hx 104 _ (0, 0) _ hg Try.underlying104 rfl (size104 L rv long kp hL) h
theorem wpl_store104 {ops : Array Oper} {rest : List Oper} {o : Oper} {a : Act} {w : World} {Q : Exit → Act → World → Prop} (hgd : o.guard = none) (x y : Operand) (ho : o.op = .store 104 x y)
    (g : Nat) (L L0 : List (BitVec 32)) (rv long kp rv0 long0 kp0 : Value) (hx : a.eval x = .pointer (some ⟨g, 0, none⟩)) (hy : a.eval y = .agg (hcells L rv long kp)) (hL : L.length = 8) (hL0 : L0.length = 8)
    (h1 : rv.oneCell' = true) (h2 : long.oneCell' = true) (h3 : kp.oneCell' = true) (hg : w.heap[g]? = some (.cells (hcells L0 rv0 long0 kp0) 104 (0, 0)))
    (h : ∀ w', w'.heap[g]? = some (.cells (hcells L rv long kp) 104 (0, 0)) → Upd w w' g → wpList Try.prog ops Q rest (a.put o.dst undef) w') : wpList Try.prog ops Q (o :: rest) a w :=
  wpList_store_row hgd 104 x y ho g _ hx hy 104 _ hg (size104 L rv long kp hL) (by simp [hcells, hL, hL0]) (by simp [hcells, h1, h2, h3]; intros; rfl)
    (h _ (setRow_heap _ _ _ _ _ _ hg) ⟨rfl, rfl, rfl, by simp, fun k _ hk => setRow_other w g k _ (fun e => hk (by rw [e]))⟩)
set_option maxRecDepth 100000 in
set_option maxHeartbeats 1000000 in
/-- Copy: another one that was told the same, in new memory. -/
theorem copy_any (hb kb : Nat) (rv : Value) (m : List UInt8) (w : World) (hH : HashAt w hb kb rv m) :
    Calls Try.prog 35 #[.pointer (some ⟨hb, 0, none⟩)] w fun e w' => ∃ hb' rv', e = .returned (.pointer (some ⟨hb', 0, none⟩)) ∧ HashAt w' hb' kb rv' m ∧ Ext w w' ∧ w.heap.size ≤ hb' ∧ (∀ g, rv'.ownBlock = some g → w.heap.size ≤ g) := by
  have hbh := hH.lt
  have hkh := hH.klt
  obtain ⟨p, r, hm, hp, hr, hh, ho⟩ := hH.ex
  have hrl : r.length ≤ 4294967296 := by
    have := hH.le
    have := congrArg List.length hm
    simp at this
    omega
  obtain ⟨A, cap, hv, _⟩ := ho.rd.is
  subst hv
  have g8 := hobj_cell8 hh
  have HH := Lib.hid hh
  have HO := Lib.hid ho
  have HK := Lib.hid hH.k
  have HM := Lib.hid hm
  have HP := Lib.hid hp
  have HL := Lib.hid hH.le
  clear hh ho hm hp hH
  go_enter Try.func35, Try.ntmps35
  go_wp2_with (first
    | (refine wpl_load104 rfl _ rfl hb rfl _ _ _ _ rfl HH.out ?_)
    | (refine wpl_alloc_agg rfl 104 rfl _ zero104.1 ?_)
    | (refine wpl_store104 rfl _ _ rfl w.heap.size _ _ _ _ _ _ _ _ rfl rfl rfl rfl rfl rfl rfl (heap_alloc_last w _) ?_; intro w2 hc2 hu2; have hx2 : Ext w w2 := Ext.upd_new ((Ext.refl w).alloc _) hu2 (Nat.le_refl _); have g82 : w2.cell? ⟨hb, 8, none⟩ = some (.slice A r.length cap) := (hx2.cell _ _ hbh).trans g8; have HB2 := Lib.hid (show Bs w2 (.slice A r.length cap) r from (Own.rd HO.out).ext hx2); have HX2 := Lib.hid hx2; have HC2 := Lib.hid hc2; clear hc2 hu2 hx2 g8)
    | (at_builtin; go_must (refine wpList_append_nil_bs rfl _ rfl _ rfl HB2.out hrl ?_; intro v3 w3 ho3 hx3 hf3; obtain ⟨A3, c3, hv3, _⟩ := ho3.rd.is; subst hv3; have hh3 := (hx3.block (Array.getElem?_eq_some_iff.1 HC2.out).1).trans HC2.out; have g83 : w3.cell? ⟨w.heap.size, 8, none⟩ = some (.slice A r.length cap) := (by rw [cell_of_row _ _ _ _ _ _ hh3]; rfl); have gf3 : w3.frozen? ⟨w.heap.size, 8, none⟩ = false := frozen_of_row _ _ _ _ _ hh3; have HO3 := Lib.hid ho3; have HX3 := Lib.hid hx3; have HF3 := Lib.hid hf3; have HH3 := Lib.hid hh3; clear hh3 ho3 hx3 hf3)))
  go_ret
  have hx : Ext w w3 := HX2.out.trans HX3.out
  have hu : Upd w3 (w3.setCell ⟨w.heap.size, 8, none⟩ (.slice A3 r.length c3)) w.heap.size := (Upd.of_ext (Ext.refl _) _).setCell (.inl rfl) _
  have hw2 : w.heap.size < w2.heap.size := (Array.getElem?_eq_some_iff.1 HC2.out).1
  refine ⟨w.heap.size, _, rfl, ⟨⟨p, r, HM.out, HP.out, hr, hobj_set8 HH3.out, Own.keep HO3.out hu ?_⟩, ?_, HL.out⟩, hx.upd_new hu (Nat.le_refl _), Nat.le_refl _, fun g hg => Nat.le_trans (Nat.le_of_lt hw2) (HF3.out g hg)⟩
  · intro e
    have := HF3.out _ e
    omega
  · rw [hu.old (Nat.lt_of_lt_of_le hkh hx.size) (by omega), hx.block hkh]
    exact HK.out
end Go.Proofs.Ytapojpjmeadabaa

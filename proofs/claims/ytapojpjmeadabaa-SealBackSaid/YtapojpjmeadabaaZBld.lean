/- Bld, Dec2, Flds, Dec3: several texts in one. -/
import Derived.Test.YtapojpjmeadabaaZRegs
import Derived.Test.YtapojpjmeadabaaZSeal5
import Derived.Great.BuildSlice
import Derived.Laws.Cover3
section
/- A slice literal of one digest; a digest out of a slice of bytes. -/
namespace Go.Proofs.Ytapojpjmeadabaa
open Go.RowKit
set_option linter.unusedVariables false
set_option linter.unusedSimpArgs false
attribute [local go_sem] lt_ext cell?_ext frozen?_ext shape?_ext

set_option maxRecDepth 100000 in
theorem exec_build66 {o : Oper} {ρ : Operand → Value} (x : Operand) (ho : o.op = .buildSlice 66 1 #[(0, x)]) (d : List UInt8) (h : d.length = 32) (hx : ρ x = Dig d) (w : World) :
    (execOp ρ o).run Try.prog w = .ok (.value (.slice (some ⟨w.heap.size, 0, none⟩) 1 1)) (w.alloc (.cells (row8 d) 27)) := by
  obtain ⟨ie, hi, hz0, hz1, hz2⟩ := info_parts ei66.info
  have hf : Instr.fill (fun i => some (i * ie.size, ie.size)) ((Array.range (1 * ie.size)).map ((Value.agg (Array.replicate 32 (.int .u8 0))).cells[· % (Value.agg (Array.replicate 32 (.int .u8 0))).cells.size]!)) [(0, Dig d)] = some (row8 d) := by
    rw [hz1]
    have hd : (Dig d).cells.size = 32 := by show (row8 d).size = 32; rw [row8_size, h]
    obtain ⟨r, h1, h2, h3⟩ := Great.fill_dense (s := 32) (by decide) [Dig d] 0 ((Array.range (1 * 32)).map ((Value.agg (Array.replicate 32 (.int .u8 0))).cells[· % (Value.agg (Array.replicate 32 (.int .u8 0))).cells.size]!)) (fun v hv => by have e : v = Dig d := (by simpa using hv); rw [e]; exact hd) (by simp)
    have e : r = row8 d := by
      apply Array.ext_getElem?
      intro k
      rw [h3 k]
      by_cases hk : k < 32
      · rw [if_pos (by simp; omega), show k / 32 - 0 = 0 by omega, show k % 32 = k by omega]
        rfl
      · rw [if_neg (by simp; omega), Array.getElem?_eq_none (by simp; omega), Array.getElem?_eq_none (by rw [row8_size]; omega)]
    rw [← e]
    exact h1
  have hr := run_buildSlice w 66 27 1 #[(0, Dig d)] (row8 d) ie _ ei66.t hi hz0 (by rw [hz1]; decide) (by rw [hz1]; decide) hf
  unfold execOp
  simp only [ho]
  simp only [List.map_toArray, List.map_cons, List.map_nil, hx, Sem.run_bind, hr, Result.andThen_ok, Sem.run_pure]
theorem dgs_one (w : World) (d : List UInt8) (h : d.length = 32) : Dgs (w.alloc (.cells (row8 d) 27)) (.slice (some ⟨w.heap.size, 0, none⟩) 1 1) [d] := by
  refine ⟨Rd.lit ?_ (Nat.le_refl _) (by decide) (by simp) (fun j u hj => ?_), fun e he => by have e1 : e = d := (by simpa using he); rw [e1]; exact h⟩
  · simp [dgc, h]
  · have e : dgc [d] = d.map B8 := by simp [dgc]
    rw [e] at hj
    rw [Nat.zero_add, cell_of_row _ _ _ _ _ _ (heap_alloc_last w _)]
    simpa [row8] using hj
theorem exec_toArr {o : Oper} {ρ : Operand → Value} (x : Operand) (ho : o.op = .sliceToArrayPointer 27 x) (a : Option Addr) (n c : Nat) (hn : 32 ≤ n) (hx : ρ x = .slice a n c) (w : World) :
    (execOp ρ o).run Try.prog w = .ok (.value (.pointer a)) w := by
  have hr := run_arrayAt (P := Try.prog) w 27 5 32 a n c Try.underlying27 hn
  unfold execOp
  simp only [ho, hx, Sem.run_bind, hr, Result.andThen_ok, Sem.run_pure]
def DgsR (ds : List (List UInt8)) (u : Value) (w : World) : Prop := Dgs w u ds
theorem DgsR.ext {ds : List (List UInt8)} (u : Value) (w w' : World) (hx : Ext w w') (h : DgsR ds u w) : DgsR ds u w' := Dgs.ext h hx
end Go.Proofs.Ytapojpjmeadabaa
end

section
/- seal.Decode, where the blocks are too many. -/
namespace Go.Proofs.Ytapojpjmeadabaa
open Go.RowKit
set_option linter.unusedVariables false
set_option linter.unusedSimpArgs false
attribute [local go_sem] lt_ext cell?_ext frozen?_ext shape?_ext

def NewP (B : Nat) (u : Value) (w : World) : Prop := ∃ g, u = .pointer (some ⟨g, 0, none⟩) ∧ At68 w g z68 ∧ B ≤ g
theorem NewP.ext {B : Nat} (u : Value) (w w' : World) (hx : Ext w w') (h : NewP B u w) : NewP B u w' := by
  obtain ⟨g, h1, h2, h3⟩ := h
  exact ⟨g, h1, h2.ext hx, h3⟩
set_option maxRecDepth 100000 in
set_option maxHeartbeats 2000000 in
theorem decode_big (kv bv : Value) (key b : List UInt8) (w : World) (hB : Bs w bv b) (hK : Bs w kv key) (hk0 : key.length ≤ 2147483648) (h48 : 48 ≤ b.length) (hb : b.length ≤ 1073741824) (hq : decide (Sha.tag key (fbody b) = ftag b) = true) (hm : decide (b.take 4 = magicL) = true) (hN : 4096 < fN b) :
    Calls Try.prog 68 #[kv, bv] w fun e w' => e = .returned (.tuple #[Z68, .int .i64 5]) ∧ Ext w w' := by
  obtain ⟨Ab, cb, e0, _, _, _, _⟩ := hB.is
  obtain ⟨M, hM⟩ : ∃ M, b.length = M + 32 := ⟨b.length - 32, by omega⟩
  have hM16 : 16 ≤ M := by omega
  have hMb : M ≤ 2147483648 := by omega
  rw [hM] at e0
  subst e0
  have hd : decide ((M : Int) + 32 < 48) = false := decide_eq_false (by omega)
  obtain ⟨V21, hV21, hr21⟩ := run_slice_every ei23 hB (some (.int .i64 (M : Int))) none M b.length (.inr rfl) (.inl ⟨rfl, rfl⟩) (by omega) (Nat.le_refl _)
  obtain ⟨V26, hV26, hr26⟩ := run_slice_every ei23 hB none (some (.int .i64 (M : Int))) 0 M (.inl ⟨rfl, rfl⟩) (.inr rfl) (Nat.zero_le _) (by omega)
  obtain ⟨V33, hV33, hr33⟩ := run_slice_every ei23 hB none (some (.int .i64 ((4 : Nat) : Int))) 0 4 (.inl ⟨rfl, rfl⟩) (.inr rfl) (Nat.zero_le _) (by omega)
  have hT : Bs w V21 (ftag b) := Bs.of_rd (n := b.length - M) (l := b.drop M) (by have := hr21; rw [Bs.sub_list, List.take_length] at this; exact this) (by unfold ftag; rw [List.length_drop]; omega) (by unfold ftag; rw [hM, Nat.add_sub_cancel])
  have hO : Bs w V26 (fbody b) := Bs.of_rd (n := M - 0) (l := b.take M) (by have := hr26; simp only [Nat.mul_one, Nat.zero_mul, List.drop_zero] at this; rw [← List.map_take] at this; exact this) (by unfold fbody; rw [List.length_take]; omega) (by unfold fbody; rw [hM, Nat.add_sub_cancel])
  have hQ : Bs w V33 (b.take 4) := Bs.of_rd (n := 4 - 0) (l := b.take 4) (by have := hr33; simp only [Nat.mul_one, Nat.zero_mul, List.drop_zero] at this; rw [← List.map_take] at this; exact this) (by rw [List.length_take]; omega) rfl
  have hOl : (fbody b).length ≤ 1073741824 := by unfold fbody; rw [List.length_take]; omega
  obtain ⟨T1, hT1⟩ : ∃ T1, ftag b = T1 := ⟨_, rfl⟩
  obtain ⟨O1, hO1⟩ : ∃ O1, fbody b = O1 := ⟨_, rfl⟩
  obtain ⟨Q1, hQ1⟩ : ∃ Q1, b.take 4 = Q1 := ⟨_, rfl⟩
  rw [hT1] at hT
  rw [hO1] at hO hOl
  rw [hQ1] at hQ
  obtain ⟨A26, n26, c26, e26⟩ : ∃ A n c, V26 = .slice A n c := by
    obtain ⟨_, _, e, _⟩ := hO.is
    exact ⟨_, _, _, e⟩
  subst e26
  have HT := Lib.hid hT
  have HO := Lib.hid hO
  have HQ := Lib.hid hQ
  have HV21 := Lib.hid hV21
  have HV26 := Lib.hid hV26
  have HV33 := Lib.hid hV33
  have HK := Lib.hid hK
  have HT1 := Lib.hid hT1
  have HO1 := Lib.hid hO1
  have HQ1 := Lib.hid hQ1
  have HBB : Hid (Bs w (.slice Ab (M + 32) cb) b) := Lib.hid hB
  have HM := Lib.hid hM
  clear hB hr21 hr26 hr33 hT hO hQ hV21 hV26 hV33 hK hT1 hO1 hQ1 hM
  have HQQ : Hid (decide (Sha.tag key O1 = T1) = true) := Lib.hid (by rw [← HO1.out, ← HT1.out]; exact hq)
  have HMQ : Hid ((!decide (Q1 = magicL)) = false) := Lib.hid (by rw [← HQ1.out, hm]; rfl)
  clear hq hm
  obtain ⟨V39, hV39, hr39⟩ := run_slice_every ei23 HBB.out (some (.int .i64 ((4 : Nat) : Int))) (some (.int .i64 ((12 : Nat) : Int))) 4 12 (.inr rfl) (.inr rfl) (by decide) (by have := HM.out; omega)
  obtain ⟨V42, hV42, hr42⟩ := run_slice_every ei23 HBB.out (some (.int .i64 ((12 : Nat) : Int))) (some (.int .i64 ((16 : Nat) : Int))) 12 16 (.inr rfl) (.inr rfl) (by decide) (by have := HM.out; omega)
  have h39l : ((b.take 12).drop 4).length = 8 := by rw [List.length_drop, List.length_take]; have := HM.out; omega
  have h42l : ((b.take 16).drop 12).length = 4 := by rw [List.length_drop, List.length_take]; have := HM.out; omega
  have h39 : Bs w V39 ((b.take 12).drop 4) := Bs.of_rd (n := 12 - 4) (l := (b.take 12).drop 4) (by have := hr39; rw [Bs.sub_list] at this; exact this) (by rw [h39l]) rfl
  have h42 : Bs w V42 ((b.take 16).drop 12) := Bs.of_rd (n := 16 - 12) (l := (b.take 16).drop 12) (by have := hr42; rw [Bs.sub_list] at this; exact this) (by rw [h42l]) rfl
  have hnum : spell ((b.take 12).drop 4) ≤ 18446744073709551615 := by have := spell_lt ((b.take 12).drop 4); rw [h39l] at this; omega
  have hNb : spell ((b.take 16).drop 12) ≤ 4294967295 := by have := spell_lt ((b.take 16).drop 12); rw [h42l] at this; omega
  obtain ⟨num, hnumq⟩ : ∃ num, fnum b = num := ⟨_, rfl⟩
  obtain ⟨N, hNq⟩ : ∃ N, fN b = N := ⟨_, rfl⟩
  have hnumq' : spell ((b.take 12).drop 4) = num := hnumq
  have hNq' : spell ((b.take 16).drop 12) = N := hNq
  rw [hnumq'] at hnum
  rw [hNq'] at hNb
  have C39 : Hid (∀ w', Ext w w' → Calls Try.prog 105 #[V39] w' fun e w'' => e = .returned (.int .u64 (num : Int)) ∧ Ext w' w'') := Lib.hid (fun w' hx => by
    have h := cget_any V39 _ (by rw [h39l]; decide) w' (Rd.ext h39 hx)
    rw [hnumq'] at h
    exact h.mono fun e w'' ⟨h1, h2⟩ => ⟨h1, h2 ▸ Ext.refl _⟩)
  have C42 : Hid (∀ w', Ext w w' → Calls Try.prog 105 #[V42] w' fun e w'' => e = .returned (.int .u64 (N : Int)) ∧ Ext w' w'') := Lib.hid (fun w' hx => by
    have h := cget_any V42 _ (by rw [h42l]; decide) w' (Rd.ext h42 hx)
    rw [hNq'] at h
    exact h.mono fun e w'' ⟨h1, h2⟩ => ⟨h1, h2 ▸ Ext.refl _⟩)
  have HNUM := Lib.hid hnumq
  have HNN := Lib.hid hNq
  have HV39 := Lib.hid hV39
  have HV42 := Lib.hid hV42
  clear hr39 hr42 h39 h42 h39l h42l hnumq' hNq' hV39 hV42 hnumq hNq
  rw [HNN.out] at hN
  go_enter Try.func68, Try.ntmps68
  go_wp2
  have hx0 : Ext w (w.alloc (.cells #[.int .u64 0, .int .i64 0, .slice none 0 0, .slice none 0 0] 68)) := (Ext.refl w).alloc _
  have hb0 : At68 (w.alloc (.cells #[.int .u64 0, .int .i64 0, .slice none 0 0, .slice none 0 0] 68)) w.heap.size z68 := heap_alloc_last w _
  generalize w.alloc (.cells #[.int .u64 0, .int .i64 0, .slice none 0 0, .slice none 0 0] 68) = W1 at *
  have HX1 := Lib.hid hx0
  have HB1 := Lib.hid hb0
  have hs1 := hb0.lt
  clear hx0 hb0
  refine wp_region_m (by kernel_rfl) (by kernel_rfl) ?_; try simp only [Act.put, List.setIfInBounds_toArray, List.set_cons_succ, List.set_cons_zero]
  refine gq rfl rfl rfl rfl (fun K hK => ?_); go_big_quiet_op; refine hK _ ?_; clear hK K
  refine gq rfl rfl rfl rfl (fun K hK => ?_); go_big_quiet_op; refine hK _ ?_; clear hK K
  refine gq rfl rfl rfl rfl (fun K hK => ?_); go_big_quiet_op; refine hK _ ?_; clear hK K
  try simp only [hd]
  refine gq rfl rfl rfl rfl (fun K hK => ?_); go_big_quiet_op; refine hK _ ?_; clear hK K
  refine gq rfl rfl rfl rfl (fun K hK => ?_); go_big_quiet_op; refine hK _ ?_; clear hK K
  refine gq rfl rfl rfl rfl (fun K hK => ?_); go_big_quiet_op; refine hK _ ?_; clear hK K
  refine gq rfl rfl rfl rfl (fun K hK => ?_); go_big_quiet_op; refine hK _ ?_; clear hK K
  refine gq rfl rfl rfl rfl (fun K hK => ?_); go_big_quiet_op; refine hK _ ?_; clear hK K
  refine gq rfl rfl rfl rfl (fun K hK => ?_); go_big_quiet_op; refine hK _ ?_; clear hK K
  refine ge rfl rfl rfl rfl V21 (exec_slice_every ei23.t (.tmp 17) (some (.tmp 20)) none rfl _ V21 rfl (some (.int .i64 (M : Int))) none rfl rfl HV21.out) ?_
  simp only [Act.put, List.setIfInBounds_toArray, List.set_cons_succ, List.set_cons_zero]
  refine gq rfl rfl rfl rfl (fun K hK => ?_); go_big_quiet_op; refine hK _ ?_; clear hK K
  refine gq rfl rfl rfl rfl (fun K hK => ?_); go_big_quiet_op; refine hK _ ?_; clear hK K
  refine gq rfl rfl rfl rfl (fun K hK => ?_); go_big_quiet_op; refine hK _ ?_; clear hK K
  refine gq rfl rfl rfl rfl (fun K hK => ?_); go_big_quiet_op; refine hK _ ?_; clear hK K
  refine ge rfl rfl rfl rfl (.slice A26 n26 c26) (exec_slice_every ei23.t (.tmp 22) none (some (.tmp 25)) rfl _ _ rfl none (some (.int .i64 (M : Int))) rfl rfl HV26.out) ?_
  simp only [Act.put, List.setIfInBounds_toArray, List.set_cons_succ, List.set_cons_zero]
  refine gv rfl rfl rfl rfl 27 rfl (RssR [O1]) RssR.ext (fun x => ⟨_, _, by go_simp <;> first | exact ⟨rfl, rfl⟩ | rfl, ⟨_, Rss.one _ _ O1 (Rd.ext HO.out (HX1.out.trans (ext_ext _ x)))⟩, (Ext.refl _).alloc _⟩) ?_
  simp only [Act.put, List.setIfInBounds_toArray, List.set_cons_succ, List.set_cons_zero]
  refine gcx rfl rfl 48 (fun xs => #[kv, V21, xs 27]) (.bool true) (fun xs => rfl) (fun xs w => by simp only [fillM, Act.put, List.setIfInBounds_toArray, List.set_cons_succ, List.set_cons_zero]; go_simp) (fun xs x hk => by obtain ⟨vs, hu⟩ := hk 27 (by decide) (by simp) _ rfl; have h := check_any O1 _ _ _ key T1 vs [O1] _ (Rd.ext HK.out (HX1.out.trans (ext_ext _ x))) (Rd.ext HT.out (HX1.out.trans (ext_ext _ x))) hu hk0 (Lib.hid (by simp)) hOl; rw [HQQ.out] at h; exact h) ?_
  simp only [Act.put, List.setIfInBounds_toArray, List.set_cons_succ, List.set_cons_zero]
  refine gq rfl rfl rfl rfl (fun K hK => ?_); go_big_quiet_op; refine hK _ ?_; clear hK K
  refine gq rfl rfl rfl rfl (fun K hK => ?_); go_big_quiet_op; refine hK _ ?_; clear hK K
  refine gq rfl rfl rfl rfl (fun K hK => ?_); go_big_quiet_op; refine hK _ ?_; clear hK K
  refine gq rfl rfl rfl rfl (fun K hK => ?_); go_big_quiet_op; refine hK _ ?_; clear hK K
  refine ge rfl rfl rfl rfl V33 (exec_slice_every ei23.t (.tmp 32) none (some (.const (.int .i64 4))) rfl _ V33 rfl none (some (.int .i64 4)) rfl rfl HV33.out) ?_
  simp only [Act.put, List.setIfInBounds_toArray, List.set_cons_succ, List.set_cons_zero]
  refine gx rfl rfl rfl rfl (Str Q1) (fun x => exec_str (.tmp 33) rfl V33 rfl Q1 _ (Rd.ext HQ.out (HX1.out.trans (ext_ext _ x)))) ?_
  simp only [Act.put, List.setIfInBounds_toArray, List.set_cons_succ, List.set_cons_zero]
  refine ge rfl rfl rfl rfl (.bool false) (fun x => by rw [exec_ne9 (.tmp 34) (.const (.string ⟨#[83, 69, 65, 76]⟩)) _ rfl Q1 magicL rfl rfl, HMQ.out]) ?_
  simp only [Act.put, List.setIfInBounds_toArray, List.set_cons_succ, List.set_cons_zero]
  refine gq rfl rfl rfl rfl (fun K hK => ?_); go_big_quiet_op; refine hK _ ?_; clear hK K
  refine gm_end_at rfl [(27, RssR [O1])] rfl (fun xs y hk => ?_)
  clear hk
  simp only [fillM, Act.put, List.setIfInBounds_toArray, List.set_cons_succ, List.set_cons_zero]
  have HX2 := Lib.hid (HX1.out.trans (ext_ext _ y))
  have HB2 := Lib.hid (HB1.out.ext (ext_ext _ y))
  have hs2 := HB2.out.lt
  have HXY := Lib.hid (ext_ext _ y)
  generalize W1.ext y = W2 at *
  go_wp2
  refine wp_region_mt 9 (by kernel_rfl) (by kernel_rfl) ?_
  simp only [List.take_succ_cons, List.take_zero]
  refine gq rfl rfl rfl rfl (fun K hK => ?_); go_big_quiet_op; refine hK _ ?_; clear hK K
  refine ge rfl rfl rfl rfl V39 (exec_slice_every ei23.t (.tmp 38) (some (.const (.int .i64 4))) (some (.const (.int .i64 12))) rfl _ V39 rfl (some (.int .i64 4)) (some (.int .i64 12)) rfl rfl HV39.out) ?_
  simp only [Act.put, List.setIfInBounds_toArray, List.set_cons_succ, List.set_cons_zero]
  refine gc rfl rfl rfl rfl 105 #[V39] (fun _ => by go_simp) (.int .u64 (num : Int)) (fun x => C39.out _ (HX2.out.trans (ext_ext _ x))) ?_
  simp only [Act.put, List.setIfInBounds_toArray, List.set_cons_succ, List.set_cons_zero]
  refine gq rfl rfl rfl rfl (fun K hK => ?_); go_big_quiet_op; refine hK _ ?_; clear hK K
  refine ge rfl rfl rfl rfl V42 (exec_slice_every ei23.t (.tmp 41) (some (.const (.int .i64 12))) (some (.const (.int .i64 16))) rfl _ V42 rfl (some (.int .i64 12)) (some (.int .i64 16)) rfl rfl HV42.out) ?_
  simp only [Act.put, List.setIfInBounds_toArray, List.set_cons_succ, List.set_cons_zero]
  refine gc rfl rfl rfl rfl 105 #[V42] (fun _ => by go_simp) (.int .u64 (N : Int)) (fun x => C42.out _ (HX2.out.trans (ext_ext _ x))) ?_
  simp only [Act.put, List.setIfInBounds_toArray, List.set_cons_succ, List.set_cons_zero]
  refine ge rfl rfl rfl rfl (.int .i64 (N : Int)) (fun _ => by go_simp; rw [IntKind.wrap_i64]; omega) ?_
  simp only [Act.put, List.setIfInBounds_toArray, List.set_cons_succ, List.set_cons_zero]
  refine ge rfl rfl rfl rfl (.agg (row68 (.int .u64 (num : Int)) (.int .i64 (N : Int)) (.slice none 0 0) (.slice none 0 0))) (fun _ => by go_simp; rfl) ?_
  simp only [Act.put, List.setIfInBounds_toArray, List.set_cons_succ, List.set_cons_zero]
  refine gv rfl rfl rfl rfl 6 rfl (NewP W2.heap.size) NewP.ext (fun x => ⟨_, _, by go_simp <;> first | exact ⟨rfl, rfl⟩ | rfl, ⟨_, rfl, heap_alloc_last _ _, (ext_ext _ x).size⟩, (Ext.refl _).alloc _⟩) ?_
  simp only [Act.put, List.setIfInBounds_toArray, List.set_cons_succ, List.set_cons_zero]
  refine gm_end_at rfl [(6, NewP W2.heap.size)] rfl (fun xs z hk => ?_)
  have h6 := hk 6 (by simp) _ rfl
  clear hk
  simp only [fillM, Act.put, List.setIfInBounds_toArray, List.set_cons_succ, List.set_cons_zero]
  simp only [List.drop_succ_cons, List.drop_zero]
  obtain ⟨g, eg, hbg, hlg⟩ := h6
  rw [eg]
  refine wpl_store68 rfl _ _ rfl g (.int .u64 (num : Int)) (.int .i64 (N : Int)) (.slice none 0 0) (.slice none 0 0) (.int .u64 0) (.int .i64 0) (.slice none 0 0) (.slice none 0 0) rfl rfl (by simp [row68, Value.oneCell']) hbg ?_
  intro W3 h3 hu3
  simp only [Act.put, List.setIfInBounds_toArray, List.set_cons_succ, List.set_cons_zero]
  have hxz := (ext_ext W2 z).upd_new hu3 hlg
  have HX3 := Lib.hid (HX2.out.trans hxz)
  have HX13 := Lib.hid (HXY.out.trans hxz)
  have HB3 := Lib.hid (HB2.out.ext hxz)
  have HG3 : Hid (At68 W3 g (row68 (.int .u64 (num : Int)) (.int .i64 (N : Int)) (.slice none 0 0) (.slice none 0 0))) := Lib.hid h3
  have hs3 := HG3.out.lt
  have cg1 : W3.cell? ⟨g, 1, none⟩ = some (.int .i64 (N : Int)) := by rw [cell_of_row _ _ _ _ _ _ h3]; rfl
  have hgw : w.heap.size < g := by omega
  clear hxz hu3 h3 hbg eg xs
  go_wp2_with (refine wpl_store68 rfl _ _ rfl w.heap.size (.int .u64 0) (.int .i64 0) (.slice none 0 0) (.slice none 0 0) (.int .u64 0) (.int .i64 0) (.slice none 0 0) (.slice none 0 0) rfl rfl (by simp [row68, Value.oneCell']) HB3.out ?_; intro wz hz huz; have HZ := Lib.hid hz; have HUZ := Lib.hid huz; clear hz huz)
  exact ret68t rfl w.heap.size _ _ _ _ _ rfl rfl HZ.out rfl ⟨rfl, (HX3.out).upd_new HUZ.out (Nat.le_refl _)⟩
end Go.Proofs.Ytapojpjmeadabaa
end

section
/- Slices of ints, and of byte slices, of our own. -/
namespace Go.Proofs.Ytapojpjmeadabaa
open Go.RowKit
set_option linter.unusedVariables false
set_option linter.unusedSimpArgs false
attribute [local go_sem] lt_ext cell?_ext frozen?_ext shape?_ext

theorem Own.other {w w' : World} {e e' : TypeId} {sz sz' n n' : Nat} {v v' : Value} {xs xs' : List Value} (h : Own w e sz v n xs) (ho : Own w e' sz' v' n' xs') (hne : e ≠ e') (hg : Grew w w' v') : Own w' e sz v n xs :=
  Own.chg h (Chg.of_grew hg) (fun g hv e1 => by
    obtain ⟨cur, fr, hb⟩ := Own.block h hv
    exact ho.not_block hb (Ne.symm hne) e1.symm)
theorem Own.upd68 {w w' : World} {e : TypeId} {sz n g : Nat} {v : Value} {xs : List Value} {c : Array Value} (h : Own w e sz v n xs) (hu : Upd w w' g) (hg : At68 w g c) (hne : e ≠ 68) : Own w' e sz v n xs :=
  h.keep hu (h.not_block hg hne)
theorem At68.grew {w w' : World} {e : TypeId} {sz n g : Nat} {v : Value} {xs : List Value} {c : Array Value} (h : At68 w g c) (ho : Own w e sz v n xs) (hne : e ≠ 68) (hg : Grew w w' v) : At68 w' g c :=
  (hg.block g h.lt (fun e1 => ho.not_block h hne e1.symm)).trans h
theorem own_cells (w : World) (e : TypeId) (n : Nat) (xs : List Value) (c : Array Value) (hc : c = xs.toArray) (hn : n = xs.length) (hm : n ≤ 4294967296) : Own (w.alloc (.cells c e)) e 1 (.slice (some ⟨w.heap.size, 0, none⟩) n n) n xs := by
  subst hc
  exact ⟨by rw [hn]; simp, .inr ⟨w.heap.size, n, xs.toArray, rfl, Nat.zero_le _, heap_alloc_last w _, Nat.le_refl _, Nat.le_trans hm (by unfold maxLen; decide), by simp [hn], by simp [hn]⟩⟩

/-! ### Ints. -/
structure NewZ (w : World) (v : Value) (ns : List Nat) (w' : World) : Prop where
  own : Own w' 3 1 v ns.length (ns.map fun n : Nat => Value.int .i64 (n : Int))
  ext : Ext w w'
  fr : ∀ g, v.ownBlock = some g → w.heap.size ≤ g
theorem NewZ.grow {w w1 w2 : World} {v : Value} {l : List Nat} (h : NewZ w v l w1) (hx : Ext w1 w2) : NewZ w v l w2 := ⟨h.own.ext hx, h.ext.trans hx, h.fr⟩
theorem NewZ.app {w w1 w2 : World} {v v' : Value} {l l' : List Nat} (h : NewZ w v l w1) (ho : Own w2 3 1 v' (l.length + l'.length) ((l.map fun n : Nat => Value.int .i64 (n : Int)) ++ (l'.map fun n : Nat => Value.int .i64 (n : Int)))) (hg : Grew w1 w2 v)
    (hf : v'.ownBlock = v.ownBlock ∨ ∀ g, v'.ownBlock = some g → w1.heap.size ≤ g) : NewZ w v' (l ++ l') w2 := by
  refine ⟨by rw [List.length_append, List.map_append]; exact ho, ?_, fun g hv => ?_⟩
  · exact (Chg.trans (Chg.of_ext h.ext (fun k => some k = v.ownBlock)) (Chg.of_grew hg) (fun k _ hk => hk)).ext fun k hk => h.fr k hk.symm
  · rcases hf with e | e
    · exact h.fr g (e ▸ hv)
    · exact Nat.le_trans h.ext.size (e g hv)
theorem NewZ.is {w w' : World} {v : Value} {l : List Nat} (h : NewZ w v l w') : Is w' v l := Own.rd h.own
theorem is_one (w : World) (n : Nat) : Is (w.alloc (.cells #[.int .i64 (n : Int)] 3)) (.slice (some ⟨w.heap.size, 0, none⟩) 1 1) [n] := Own.rd (own_cells w 3 1 [.int .i64 (n : Int)] _ rfl rfl (by decide))
theorem ints_one (l : List Nat) : ∀ u ∈ (l.map fun n : Nat => Value.int .i64 (n : Int)), u.oneCell' = true := by
  intro u hu
  obtain ⟨n, _, rfl⟩ := List.mem_map.1 hu
  rfl
def widths (wd k : Nat) : List Nat := 16 :: wd :: List.replicate k 32
theorem widths_next (wd k : Nat) : widths wd (k + 1) = widths wd k ++ [32] := by simp [widths, List.replicate_succ']
theorem widths_length (wd k : Nat) : (widths wd k).length = k + 2 := by simp [widths]
theorem widths_sum (wd k : Nat) : (widths wd k).sum = 16 + wd + 32 * k := by
  simp only [widths, List.sum_cons, List.sum_replicate_nat]
  omega
theorem widths_small (wd k : Nat) (h : wd ≤ 600) : ∀ n ∈ widths wd k, n ≤ 2147483648 := by
  intro n hn
  simp only [widths, List.mem_cons, List.mem_replicate] at hn
  omega
theorem NewZ.two (w : World) (wd : Nat) : NewZ w (.slice (some ⟨w.heap.size, 0, none⟩) 2 2) (widths wd 0) (w.alloc (.cells #[.int .i64 16, .int .i64 (wd : Int)] 3)) :=
  ⟨own_cells w 3 2 _ _ rfl rfl (by decide), (Ext.refl w).alloc _, fun g hg => by injection hg with e; subst e; exact Nat.le_refl _⟩
theorem cutL_chunk : ∀ (k : Nat) (x : List UInt8), cutL x (List.replicate k 32) = chunk x k
  | 0, _ => rfl
  | k + 1, x => by simp only [List.replicate_succ, cutL, chunk, cutL_chunk k]
theorem cut_widths (b : List UInt8) (hl : b.length = flong b) : cutL (fbody b) (widths (fwide b) (fparts b)) = (b.take 16 :: fsl b :: gsu b) := by
  unfold widths
  simp only [cutL, cutL_chunk]
  unfold fbody fsl gsu
  have h48 : 48 + fwide b + 32 * fparts b = b.length := hl.symm
  rw [List.take_take, Nat.min_eq_left (by omega), List.drop_drop, ← hl]
  congr 2
  rw [List.drop_take, List.take_take, List.drop_take]
  congr 1
  omega

/-! ### Fields, each of our own. -/
structure Fld (w : World) (v : Value) (vs : List Value) (ls : List (List UInt8)) : Prop where
  own : Own w 23 1 v ls.length vs
  each : ∀ i, i < ls.length → ∃ u, vs[i]? = some u ∧ OwnB w u (ls.getD i [])
theorem NewS.fld {w0 w : World} {v : Value} {vs : List Value} {ls : List (List UInt8)} (h : NewS false w0 v vs ls w) : Fld w v vs ls :=
  ⟨h.own, fun i hi => by
    obtain ⟨u, h1, h2⟩ := h.each i hi
    exact ⟨u, h1, h2.elim id (fun k => nomatch k.1)⟩⟩
theorem Fld.ext {w w' : World} {v : Value} {vs : List Value} {ls : List (List UInt8)} (h : Fld w v vs ls) (hx : Ext w w') : Fld w' v vs ls :=
  ⟨h.own.ext hx, fun i hi => by
    obtain ⟨u, h1, h2⟩ := h.each i hi
    exact ⟨u, h1, Own.ext h2 hx⟩⟩
theorem Fld.upd {w w' : World} {v : Value} {vs : List Value} {ls : List (List UInt8)} {g : Nat} {c : Array Value} (h : Fld w v vs ls) (hu : Upd w w' g) (hg : At68 w g c) : Fld w' v vs ls :=
  ⟨Own.upd68 h.own hu hg (by decide), fun i hi => by
    obtain ⟨u, h1, h2⟩ := h.each i hi
    exact ⟨u, h1, Own.upd68 h2 hu hg (by decide)⟩⟩
theorem Fld.grew {w w' : World} {v v' : Value} {vs xs : List Value} {ls : List (List UInt8)} {n : Nat} (h : Fld w v vs ls) (ho : Own w 27 32 v' n xs) (hg : Grew w w' v') : Fld w' v vs ls :=
  ⟨Own.other h.own ho (by decide) hg, fun i hi => by
    obtain ⟨u, h1, h2⟩ := h.each i hi
    exact ⟨u, h1, Own.other h2 ho (by decide) hg⟩⟩
theorem NewD.upd {w0 w w' : World} {v : Value} {ds : List (List UInt8)} {g : Nat} {c : Array Value} (h : NewD w0 v ds w) (hu : Upd w w' g) (hg : At68 w g c) (hge : w0.heap.size ≤ g) : NewD w0 v ds w' :=
  ⟨Own.upd68 h.own hu hg (by decide), h.ext.upd_new hu hge, h.fr, h.all⟩
end Go.Proofs.Ytapojpjmeadabaa
end

section
/- seal.Decode, where the length is another one. -/
namespace Go.Proofs.Ytapojpjmeadabaa
open Go.RowKit
set_option linter.unusedVariables false
set_option linter.unusedSimpArgs false
attribute [local go_sem] lt_ext cell?_ext frozen?_ext shape?_ext

set_option maxRecDepth 100000 in
set_option maxHeartbeats 4000000 in
theorem decode_cut (kv bv : Value) (key b : List UInt8) (w : World) (hB : Bs w bv b) (hK : Bs w kv key) (hk0 : key.length ≤ 2147483648) (h48 : 48 ≤ b.length) (hb : b.length ≤ 1073741824) (hq : decide (Sha.tag key (fbody b) = ftag b) = true) (hm : decide (b.take 4 = magicL) = true) (hN : fN b ≤ 4096) (hlo : b.length ≠ flong b) :
    Calls Try.prog 68 #[kv, bv] w fun e w' => e = .returned (.tuple #[Z68, .int .i64 5]) ∧ Ext w w' := by
  obtain ⟨Ab, cb, e0, _, _, _, _⟩ := hB.is
  obtain ⟨M, hM⟩ : ∃ M, b.length = M + 32 := ⟨b.length - 32, by omega⟩
  have hM16 : 16 ≤ M := by omega
  have hMb : M ≤ 2147483648 := by omega
  rw [hM] at e0
  subst e0
  have hd : decide ((M : Int) + 32 < 48) = false := decide_eq_false (by omega)
  obtain ⟨V21, hV21, hr21⟩ := run_slice_every ei23 hB (some (.int .i64 (M : Int))) none M b.length (.inr rfl) (.inl ⟨rfl, rfl⟩) (by omega) (Nat.le_refl _)
  obtain ⟨V26, hV26, hr26⟩ := run_slice_every ei23 hB none (some (.int .i64 (M : Int))) 0 M (.inl ⟨rfl, rfl⟩) (.inr rfl) (Nat.zero_le _) (by omega)
  obtain ⟨V33, hV33, hr33⟩ := run_slice_every ei23 hB none (some (.int .i64 ((4 : Nat) : Int))) 0 4 (.inl ⟨rfl, rfl⟩) (.inr rfl) (Nat.zero_le _) (by omega)
  have hT : Bs w V21 (ftag b) := Bs.of_rd (n := b.length - M) (l := b.drop M) (by have := hr21; rw [Bs.sub_list, List.take_length] at this; exact this) (by unfold ftag; rw [List.length_drop]; omega) (by unfold ftag; rw [hM, Nat.add_sub_cancel])
  have hO : Bs w V26 (fbody b) := Bs.of_rd (n := M - 0) (l := b.take M) (by have := hr26; simp only [Nat.mul_one, Nat.zero_mul, List.drop_zero] at this; rw [← List.map_take] at this; exact this) (by unfold fbody; rw [List.length_take]; omega) (by unfold fbody; rw [hM, Nat.add_sub_cancel])
  have hQ : Bs w V33 (b.take 4) := Bs.of_rd (n := 4 - 0) (l := b.take 4) (by have := hr33; simp only [Nat.mul_one, Nat.zero_mul, List.drop_zero] at this; rw [← List.map_take] at this; exact this) (by rw [List.length_take]; omega) rfl
  have hOl : (fbody b).length ≤ 1073741824 := by unfold fbody; rw [List.length_take]; omega
  obtain ⟨T1, hT1⟩ : ∃ T1, ftag b = T1 := ⟨_, rfl⟩
  obtain ⟨O1, hO1⟩ : ∃ O1, fbody b = O1 := ⟨_, rfl⟩
  obtain ⟨Q1, hQ1⟩ : ∃ Q1, b.take 4 = Q1 := ⟨_, rfl⟩
  rw [hT1] at hT
  rw [hO1] at hO hOl
  rw [hQ1] at hQ
  obtain ⟨A26, n26, c26, e26⟩ : ∃ A n c, V26 = .slice A n c := by
    obtain ⟨_, _, e, _⟩ := hO.is
    exact ⟨_, _, _, e⟩
  subst e26
  have HT := Lib.hid hT
  have HO := Lib.hid hO
  have HQ := Lib.hid hQ
  have HV21 := Lib.hid hV21
  have HV26 := Lib.hid hV26
  have HV33 := Lib.hid hV33
  have HK := Lib.hid hK
  have HT1 := Lib.hid hT1
  have HO1 := Lib.hid hO1
  have HQ1 := Lib.hid hQ1
  have HBB : Hid (Bs w (.slice Ab (M + 32) cb) b) := Lib.hid hB
  have HM := Lib.hid hM
  clear hB hr21 hr26 hr33 hT hO hQ hV21 hV26 hV33 hK hT1 hO1 hQ1 hM
  have HQQ : Hid (decide (Sha.tag key O1 = T1) = true) := Lib.hid (by rw [← HO1.out, ← HT1.out]; exact hq)
  have HMQ : Hid ((!decide (Q1 = magicL)) = false) := Lib.hid (by rw [← HQ1.out, hm]; rfl)
  have HLO := Lib.hid hlo
  clear hq hm hlo
  obtain ⟨V39, hV39, hr39⟩ := run_slice_every ei23 HBB.out (some (.int .i64 ((4 : Nat) : Int))) (some (.int .i64 ((12 : Nat) : Int))) 4 12 (.inr rfl) (.inr rfl) (by decide) (by have := HM.out; omega)
  obtain ⟨V42, hV42, hr42⟩ := run_slice_every ei23 HBB.out (some (.int .i64 ((12 : Nat) : Int))) (some (.int .i64 ((16 : Nat) : Int))) 12 16 (.inr rfl) (.inr rfl) (by decide) (by have := HM.out; omega)
  have h39l : ((b.take 12).drop 4).length = 8 := by rw [List.length_drop, List.length_take]; have := HM.out; omega
  have h42l : ((b.take 16).drop 12).length = 4 := by rw [List.length_drop, List.length_take]; have := HM.out; omega
  have h39 : Bs w V39 ((b.take 12).drop 4) := Bs.of_rd (n := 12 - 4) (l := (b.take 12).drop 4) (by have := hr39; rw [Bs.sub_list] at this; exact this) (by rw [h39l]) rfl
  have h42 : Bs w V42 ((b.take 16).drop 12) := Bs.of_rd (n := 16 - 12) (l := (b.take 16).drop 12) (by have := hr42; rw [Bs.sub_list] at this; exact this) (by rw [h42l]) rfl
  have hnum : spell ((b.take 12).drop 4) ≤ 18446744073709551615 := by have := spell_lt ((b.take 12).drop 4); rw [h39l] at this; omega
  have hNb : spell ((b.take 16).drop 12) ≤ 4294967295 := by have := spell_lt ((b.take 16).drop 12); rw [h42l] at this; omega
  obtain ⟨num, hnumq⟩ : ∃ num, fnum b = num := ⟨_, rfl⟩
  obtain ⟨N, hNq⟩ : ∃ N, fN b = N := ⟨_, rfl⟩
  have hnumq' : spell ((b.take 12).drop 4) = num := hnumq
  have hNq' : spell ((b.take 16).drop 12) = N := hNq
  rw [hnumq'] at hnum
  rw [hNq'] at hNb
  have C39 : Hid (∀ w', Ext w w' → Calls Try.prog 105 #[V39] w' fun e w'' => e = .returned (.int .u64 (num : Int)) ∧ Ext w' w'') := Lib.hid (fun w' hx => by
    have h := cget_any V39 _ (by rw [h39l]; decide) w' (Rd.ext h39 hx)
    rw [hnumq'] at h
    exact h.mono fun e w'' ⟨h1, h2⟩ => ⟨h1, h2 ▸ Ext.refl _⟩)
  have C42 : Hid (∀ w', Ext w w' → Calls Try.prog 105 #[V42] w' fun e w'' => e = .returned (.int .u64 (N : Int)) ∧ Ext w' w'') := Lib.hid (fun w' hx => by
    have h := cget_any V42 _ (by rw [h42l]; decide) w' (Rd.ext h42 hx)
    rw [hNq'] at h
    exact h.mono fun e w'' ⟨h1, h2⟩ => ⟨h1, h2 ▸ Ext.refl _⟩)
  have HNUM := Lib.hid hnumq
  have HNN := Lib.hid hNq
  have HV39 := Lib.hid hV39
  have HV42 := Lib.hid hV42
  clear hr39 hr42 h39 h42 h39l h42l hnumq' hNq' hV39 hV42 hnumq hNq
  rw [HNN.out] at hN
  go_enter Try.func68, Try.ntmps68
  go_wp2
  have hx0 : Ext w (w.alloc (.cells #[.int .u64 0, .int .i64 0, .slice none 0 0, .slice none 0 0] 68)) := (Ext.refl w).alloc _
  have hb0 : At68 (w.alloc (.cells #[.int .u64 0, .int .i64 0, .slice none 0 0, .slice none 0 0] 68)) w.heap.size z68 := heap_alloc_last w _
  generalize w.alloc (.cells #[.int .u64 0, .int .i64 0, .slice none 0 0, .slice none 0 0] 68) = W1 at *
  have HX1 := Lib.hid hx0
  have HB1 := Lib.hid hb0
  have hs1 := hb0.lt
  clear hx0 hb0
  refine wp_region_m (by kernel_rfl) (by kernel_rfl) ?_; try simp only [Act.put, List.setIfInBounds_toArray, List.set_cons_succ, List.set_cons_zero]
  refine gq rfl rfl rfl rfl (fun K hK => ?_); go_big_quiet_op; refine hK _ ?_; clear hK K
  refine gq rfl rfl rfl rfl (fun K hK => ?_); go_big_quiet_op; refine hK _ ?_; clear hK K
  refine gq rfl rfl rfl rfl (fun K hK => ?_); go_big_quiet_op; refine hK _ ?_; clear hK K
  try simp only [hd]
  refine gq rfl rfl rfl rfl (fun K hK => ?_); go_big_quiet_op; refine hK _ ?_; clear hK K
  refine gq rfl rfl rfl rfl (fun K hK => ?_); go_big_quiet_op; refine hK _ ?_; clear hK K
  refine gq rfl rfl rfl rfl (fun K hK => ?_); go_big_quiet_op; refine hK _ ?_; clear hK K
  refine gq rfl rfl rfl rfl (fun K hK => ?_); go_big_quiet_op; refine hK _ ?_; clear hK K
  refine gq rfl rfl rfl rfl (fun K hK => ?_); go_big_quiet_op; refine hK _ ?_; clear hK K
  refine gq rfl rfl rfl rfl (fun K hK => ?_); go_big_quiet_op; refine hK _ ?_; clear hK K
  refine ge rfl rfl rfl rfl V21 (exec_slice_every ei23.t (.tmp 17) (some (.tmp 20)) none rfl _ V21 rfl (some (.int .i64 (M : Int))) none rfl rfl HV21.out) ?_
  simp only [Act.put, List.setIfInBounds_toArray, List.set_cons_succ, List.set_cons_zero]
  refine gq rfl rfl rfl rfl (fun K hK => ?_); go_big_quiet_op; refine hK _ ?_; clear hK K
  refine gq rfl rfl rfl rfl (fun K hK => ?_); go_big_quiet_op; refine hK _ ?_; clear hK K
  refine gq rfl rfl rfl rfl (fun K hK => ?_); go_big_quiet_op; refine hK _ ?_; clear hK K
  refine gq rfl rfl rfl rfl (fun K hK => ?_); go_big_quiet_op; refine hK _ ?_; clear hK K
  refine ge rfl rfl rfl rfl (.slice A26 n26 c26) (exec_slice_every ei23.t (.tmp 22) none (some (.tmp 25)) rfl _ _ rfl none (some (.int .i64 (M : Int))) rfl rfl HV26.out) ?_
  simp only [Act.put, List.setIfInBounds_toArray, List.set_cons_succ, List.set_cons_zero]
  refine gv rfl rfl rfl rfl 27 rfl (RssR [O1]) RssR.ext (fun x => ⟨_, _, by go_simp <;> first | exact ⟨rfl, rfl⟩ | rfl, ⟨_, Rss.one _ _ O1 (Rd.ext HO.out (HX1.out.trans (ext_ext _ x)))⟩, (Ext.refl _).alloc _⟩) ?_
  simp only [Act.put, List.setIfInBounds_toArray, List.set_cons_succ, List.set_cons_zero]
  refine gcx rfl rfl 48 (fun xs => #[kv, V21, xs 27]) (.bool true) (fun xs => rfl) (fun xs w => by simp only [fillM, Act.put, List.setIfInBounds_toArray, List.set_cons_succ, List.set_cons_zero]; go_simp) (fun xs x hk => by obtain ⟨vs, hu⟩ := hk 27 (by decide) (by simp) _ rfl; have h := check_any O1 _ _ _ key T1 vs [O1] _ (Rd.ext HK.out (HX1.out.trans (ext_ext _ x))) (Rd.ext HT.out (HX1.out.trans (ext_ext _ x))) hu hk0 (Lib.hid (by simp)) hOl; rw [HQQ.out] at h; exact h) ?_
  simp only [Act.put, List.setIfInBounds_toArray, List.set_cons_succ, List.set_cons_zero]
  refine gq rfl rfl rfl rfl (fun K hK => ?_); go_big_quiet_op; refine hK _ ?_; clear hK K
  refine gq rfl rfl rfl rfl (fun K hK => ?_); go_big_quiet_op; refine hK _ ?_; clear hK K
  refine gq rfl rfl rfl rfl (fun K hK => ?_); go_big_quiet_op; refine hK _ ?_; clear hK K
  refine gq rfl rfl rfl rfl (fun K hK => ?_); go_big_quiet_op; refine hK _ ?_; clear hK K
  refine ge rfl rfl rfl rfl V33 (exec_slice_every ei23.t (.tmp 32) none (some (.const (.int .i64 4))) rfl _ V33 rfl none (some (.int .i64 4)) rfl rfl HV33.out) ?_
  simp only [Act.put, List.setIfInBounds_toArray, List.set_cons_succ, List.set_cons_zero]
  refine gx rfl rfl rfl rfl (Str Q1) (fun x => exec_str (.tmp 33) rfl V33 rfl Q1 _ (Rd.ext HQ.out (HX1.out.trans (ext_ext _ x)))) ?_
  simp only [Act.put, List.setIfInBounds_toArray, List.set_cons_succ, List.set_cons_zero]
  refine ge rfl rfl rfl rfl (.bool false) (fun x => by rw [exec_ne9 (.tmp 34) (.const (.string ⟨#[83, 69, 65, 76]⟩)) _ rfl Q1 magicL rfl rfl, HMQ.out]) ?_
  simp only [Act.put, List.setIfInBounds_toArray, List.set_cons_succ, List.set_cons_zero]
  refine gq rfl rfl rfl rfl (fun K hK => ?_); go_big_quiet_op; refine hK _ ?_; clear hK K
  refine gm_end_at rfl [(27, RssR [O1])] rfl (fun xs y hk => ?_)
  clear hk
  simp only [fillM, Act.put, List.setIfInBounds_toArray, List.set_cons_succ, List.set_cons_zero]
  have HX2 := Lib.hid (HX1.out.trans (ext_ext _ y))
  have HB2 := Lib.hid (HB1.out.ext (ext_ext _ y))
  have hs2 := HB2.out.lt
  have HXY := Lib.hid (ext_ext _ y)
  generalize W1.ext y = W2 at *
  go_wp2
  refine wp_region_mt 9 (by kernel_rfl) (by kernel_rfl) ?_
  simp only [List.take_succ_cons, List.take_zero]
  refine gq rfl rfl rfl rfl (fun K hK => ?_); go_big_quiet_op; refine hK _ ?_; clear hK K
  refine ge rfl rfl rfl rfl V39 (exec_slice_every ei23.t (.tmp 38) (some (.const (.int .i64 4))) (some (.const (.int .i64 12))) rfl _ V39 rfl (some (.int .i64 4)) (some (.int .i64 12)) rfl rfl HV39.out) ?_
  simp only [Act.put, List.setIfInBounds_toArray, List.set_cons_succ, List.set_cons_zero]
  refine gc rfl rfl rfl rfl 105 #[V39] (fun _ => by go_simp) (.int .u64 (num : Int)) (fun x => C39.out _ (HX2.out.trans (ext_ext _ x))) ?_
  simp only [Act.put, List.setIfInBounds_toArray, List.set_cons_succ, List.set_cons_zero]
  refine gq rfl rfl rfl rfl (fun K hK => ?_); go_big_quiet_op; refine hK _ ?_; clear hK K
  refine ge rfl rfl rfl rfl V42 (exec_slice_every ei23.t (.tmp 41) (some (.const (.int .i64 12))) (some (.const (.int .i64 16))) rfl _ V42 rfl (some (.int .i64 12)) (some (.int .i64 16)) rfl rfl HV42.out) ?_
  simp only [Act.put, List.setIfInBounds_toArray, List.set_cons_succ, List.set_cons_zero]
  refine gc rfl rfl rfl rfl 105 #[V42] (fun _ => by go_simp) (.int .u64 (N : Int)) (fun x => C42.out _ (HX2.out.trans (ext_ext _ x))) ?_
  simp only [Act.put, List.setIfInBounds_toArray, List.set_cons_succ, List.set_cons_zero]
  refine ge rfl rfl rfl rfl (.int .i64 (N : Int)) (fun _ => by go_simp; rw [IntKind.wrap_i64]; omega) ?_
  simp only [Act.put, List.setIfInBounds_toArray, List.set_cons_succ, List.set_cons_zero]
  refine ge rfl rfl rfl rfl (.agg (row68 (.int .u64 (num : Int)) (.int .i64 (N : Int)) (.slice none 0 0) (.slice none 0 0))) (fun _ => by go_simp; rfl) ?_
  simp only [Act.put, List.setIfInBounds_toArray, List.set_cons_succ, List.set_cons_zero]
  refine gv rfl rfl rfl rfl 6 rfl (NewP W2.heap.size) NewP.ext (fun x => ⟨_, _, by go_simp <;> first | exact ⟨rfl, rfl⟩ | rfl, ⟨_, rfl, heap_alloc_last _ _, (ext_ext _ x).size⟩, (Ext.refl _).alloc _⟩) ?_
  simp only [Act.put, List.setIfInBounds_toArray, List.set_cons_succ, List.set_cons_zero]
  refine gm_end_at rfl [(6, NewP W2.heap.size)] rfl (fun xs z hk => ?_)
  have h6 := hk 6 (by simp) _ rfl
  clear hk
  simp only [fillM, Act.put, List.setIfInBounds_toArray, List.set_cons_succ, List.set_cons_zero]
  simp only [List.drop_succ_cons, List.drop_zero]
  obtain ⟨g, eg, hbg, hlg⟩ := h6
  rw [eg]
  refine wpl_store68 rfl _ _ rfl g (.int .u64 (num : Int)) (.int .i64 (N : Int)) (.slice none 0 0) (.slice none 0 0) (.int .u64 0) (.int .i64 0) (.slice none 0 0) (.slice none 0 0) rfl rfl (by simp [row68, Value.oneCell']) hbg ?_
  intro W3 h3 hu3
  simp only [Act.put, List.setIfInBounds_toArray, List.set_cons_succ, List.set_cons_zero]
  have hxz := (ext_ext W2 z).upd_new hu3 hlg
  have HX3 := Lib.hid (HX2.out.trans hxz)
  have HX13 := Lib.hid (HXY.out.trans hxz)
  have HB3 := Lib.hid (HB2.out.ext hxz)
  have HG3 : Hid (At68 W3 g (row68 (.int .u64 (num : Int)) (.int .i64 (N : Int)) (.slice none 0 0) (.slice none 0 0))) := Lib.hid h3
  have hs3 := HG3.out.lt
  have cg1 : W3.cell? ⟨g, 1, none⟩ = some (.int .i64 (N : Int)) := by rw [cell_of_row _ _ _ _ _ _ h3]; rfl
  have hgw : w.heap.size < g := by omega
  clear hxz hu3 h3 hbg eg xs
  obtain ⟨wd, hwd⟩ : ∃ wd, (N + 7) / 8 = wd := ⟨_, rfl⟩
  obtain ⟨p, hp⟩ : ∃ p, (N + 15) / 16 = p := ⟨_, rfl⟩
  have hwdb : wd ≤ 600 := by omega
  have hpb : p ≤ 300 := by omega
  have hfw : fwide b = wd := by unfold fwide; rw [HNN.out, hwd]
  have hfp : fparts b = p := by unfold fparts; rw [HNN.out, hp]
  have HFW := Lib.hid hfw
  have HFP := Lib.hid hfp
  have HWD := Lib.hid hwd
  have HPP := Lib.hid hp
  clear hwd hp hfw hfp
  go_wp2_with (first | (go_at_call 104; go_must (refine (wide_nat N wd (by omega) HWD.out.symm _).mono ?_; rintro e w4 ⟨rfl, rfl⟩)) | (go_at_call 65; go_must (refine (parts_nat N p (by omega) HPP.out.symm _).mono ?_; rintro e w4 ⟨rfl, rfl⟩)))
  go_loopw [57, 7] (fun i v wr => ∃ k : Nat, k ≤ p ∧ i = .int .i64 k ∧ NewZ W3 v (widths wd k) wr) (fun i _ _ => p - (intOf i).toNat)
  case atStart => exact ⟨0, by omega, rfl, NewZ.two W3 wd⟩
  case round =>
    obtain ⟨k, hk, rfl, hnew⟩ := hrel
    have HN := Lib.hid hnew
    clear hnew
    by_cases hlt : k < p
    · go_wp2_with (at_builtin; go_must (refine wpList_append_rd ei127 rfl _ _ rfl _ rfl (HN.out.grow ((Ext.refl wr).alloc _)).own _ rfl (is_one wr 32) (ints_one [32]) (by rw [widths_length]; simp; omega) ?_; intro v4 w4 ho4 hg4 hf4; have HN4 := Lib.hid ((HN.out.grow ((Ext.refl wr).alloc _)).app ho4 hg4 hf4); clear ho4 hg4 hf4))
      go_roundw
      case rel => exact ⟨k + 1, by omega, by go_num, by rw [widths_next]; exact HN4.out⟩
      case measure => (simp [intOf] <;> omega)
    · obtain rfl : k = p := by omega
      have HXR := Lib.hid (HX3.out.trans HN.out.ext)
      have HX1R := Lib.hid (HX13.out.trans HN.out.ext)
      have HBR := Lib.hid (HB3.out.ext HN.out.ext)
      have HGR := Lib.hid (HG3.out.ext HN.out.ext)
      have HOR : Hid (Bs wr (.slice A26 n26 c26) O1) := Lib.hid (Rd.ext HO.out HXR.out)
      have HZR := Lib.hid HN.out.is
      have HOL : Hid (O1.length = M) := Lib.hid (by rw [← HO1.out]; unfold fbody; rw [List.length_take, HM.out]; omega)
      have hsum : (widths wd k).sum ≠ O1.length := by
        rw [widths_sum, HOL.out]
        intro e
        refine HLO.out ?_
        unfold flong
        rw [HFW.out, HFP.out, HM.out]
        omega
      have HS := Lib.hid hsum
      clear hsum
      go_wp2_with (first | (refine wpl_v rfl _ (exec_slice_every ei23.t (.tmp 64) none (some (.tmp 67)) rfl _ (.slice A26 n26 c26) rfl none (some (.int .i64 (M : Int))) rfl rfl HV26.out _) ?_) | (go_at_call 106; go_must (refine (cut_bad _ _ O1 (widths wd k) _ HOR.out HZR.out (by omega) (by rw [widths_length]; omega) (widths_small wd k hwdb) HS.out).mono ?_; rintro e w5 ⟨c, hc, rfl, hx5⟩; have HX5 := Lib.hid hx5; clear hx5)) | (refine wpl_store68 rfl _ _ rfl w.heap.size (.int .u64 0) (.int .i64 0) (.slice none 0 0) (.slice none 0 0) (.int .u64 0) (.int .i64 0) (.slice none 0 0) (.slice none 0 0) rfl rfl (by simp [row68, Value.oneCell']) (HBR.out.ext HX5.out) ?_; intro wz hz huz; have HZ := Lib.hid hz; have HUZ := Lib.hid huz; clear hz huz))
      exact ret68t rfl w.heap.size _ _ _ _ _ rfl rfl HZ.out rfl ⟨rfl, (HXR.out.trans HX5.out).upd_new HUZ.out (Nat.le_refl _)⟩
end Go.Proofs.Ytapojpjmeadabaa
end

/- sum.digest. -/
import Derived.Test.YtapojpjmeadabaaWord
import Derived.Laws.CopyRow
namespace Go.Proofs.Ytapojpjmeadabaa
open Go.RowKit
set_option linter.unusedVariables false
set_option linter.unusedSimpArgs false
attribute [local go_sem] lt_ext cell?_ext frozen?_ext shape?_ext

theorem be_val (f : Nat → Nat) (k : Nat) (hf : ∀ i, i < k → f i < 18446744073709551616) : be (val f (k + 1)) (8 * (k + 1)) = be (f k) 8 ++ be (val f k) (8 * k) := by
  have hv := val_lt k hf
  have e : (256 : Nat) ^ (8 * k) = 2 ^ (64 * k) := by
    rw [show (256 : Nat) = 2 ^ 8 from rfl, ← Nat.pow_mul]
    congr 1
    omega
  rw [show 8 * (k + 1) = 8 + 8 * k by omega, be_app, e]
  simp only [val]
  rw [Nat.add_mul_div_right _ _ (Nat.pow_pos (by omega)), Nat.div_eq_of_lt hv, Nat.zero_add]
  congr 1
  apply be_congr
  rw [e, Nat.add_mul_mod_self_right]
/-- What digest has after k rounds. -/
def dgk (f : Nat → Nat) (k : Nat) : List UInt8 := Sha.zeros (32 - 8 * k) ++ be (val f k) (8 * k)
theorem dgk_length (f : Nat → Nat) (k : Nat) (hk : k ≤ 4) : (dgk f k).length = 32 := by simp [dgk, Sha.zeros, be_length]; omega
theorem dgk_next (f : Nat → Nat) (hf : ∀ i, i < 4 → f i < 18446744073709551616) (k : Nat) (hk : k < 4) :
    (dgk f k).take (24 - 8 * k) ++ be (f k) 8 ++ (dgk f k).drop (24 - 8 * k + 8) = dgk f (k + 1) := by
  unfold dgk
  rw [be_val f k (fun i hi => hf i (by omega)), List.take_append_of_le_length (by simp [Sha.zeros]; omega), List.drop_append_of_le_length (by simp [Sha.zeros]; omega)]
  have e1 : (Sha.zeros (32 - 8 * k)).take (24 - 8 * k) = Sha.zeros (32 - 8 * (k + 1)) := by
    simp only [Sha.zeros, List.take_replicate]; congr 1; omega
  have e2 : (Sha.zeros (32 - 8 * k)).drop (24 - 8 * k + 8) = [] := by
    apply List.drop_eq_nil_of_le
    simp [Sha.zeros]; omega
  rw [e1, e2, List.nil_append, List.append_assoc]
/-- copy into a block of bytes. -/
theorem wpl_copy23 {ops : Array Oper} {rest : List Oper} {o : Oper} {a : Act} {w : World} {Q : Exit → Act → World → Prop} (hgd : o.guard = none)
    (x y : Operand) (ho : o.op = .call { callee := .builtin .copy, args := #[x, y], argTypes := #[23, 23] }) (g k n c : Nat) (hx : a.eval x = .slice (some ⟨g, k, none⟩) n c)
    (v : Value) (hy : a.eval y = v) (T : TypeId) (l s : List UInt8) (hB : Bs w v s) (hl : Blk w g T l) (hs0 : 0 < s.length) (hsn : s.length ≤ n) (hfit : k + s.length ≤ l.length)
    (h : ∀ w', Blk w' g T (l.take k ++ s ++ l.drop (k + s.length)) → Upd w w' g → wpList Try.prog ops Q rest (a.put o.dst (.int .i64 (s.length : Int))) w') : wpList Try.prog ops Q (o :: rest) a w := by
  obtain ⟨b, ob, cap, rfl, _, _, _, hcell⟩ := hB.pos hs0
  obtain ⟨i, hi, hz0, hz1, hz2⟩ := info_parts ei23.info
  refine wpList_plain hgd fun K hKK => ?_
  have hr := run_copy_row Try.prog w 23 23 o.type 5 g k n c ⟨b, ob, none⟩ s.length cap (row8 l) T (s.map B8) ei23.t (by rw [hi]; exact congrArg some hz1) hl (by simp [Nat.min_eq_left hsn])
    (fun j u hj => by
      rw [List.getElem?_map] at hj
      obtain ⟨z, hz, rfl⟩ := Option.map_eq_some_iff.1 hj
      have hjl := (List.getElem?_eq_some_iff.1 hz).1
      have hc := hcell j hjl
      have hadd : (⟨b, ob, none⟩ : Addr).add j = ⟨b, ob + j, none⟩ := by unfold Addr.add; split <;> simp_all
      rw [hadd, hc]
      simp [List.getD, hz])
    (by rw [List.length_map, row8_size]; exact hfit) (one_bytes s)
  have e : ((row8 l).toList.take k ++ s.map B8 ++ (row8 l).toList.drop (k + (s.map B8).length)).toArray = row8 (l.take k ++ s ++ l.drop (k + s.length)) := by
    simp [row8]
  rw [e, List.length_map] at hr
  unfold Oper.wp execOp
  simp only [ho, resolve, invoke, builtin, Sem.run_bind, Sem.run_pure, Result.andThen_ok, List.map_toArray, List.map_cons, List.map_nil, hx, hy, hr]
  exact hKK _ _ (h _ (setRow_heap _ _ _ _ _ _ hl) ⟨rfl, rfl, rfl, by simp, fun k' _ hk => setRow_other w g k' _ (fun e => hk (by rw [e]))⟩)
theorem run_index121 (f : Nat → Nat) (k : Nat) (hk : k < 4) (w : World) : (Instr.index 121 (Wd4 f) (.int .i64 (k : Int))).run Try.prog w = .ok (W64 (f k)) w := by
  rcases below4 k hk with h|h|h|h <;> subst h <;> simp [go_sem, Instr.index, row64]
set_option maxRecDepth 100000 in
set_option maxHeartbeats 1000000 in
theorem digest_of (f : Nat → Nat) (hf : ∀ i, i < 4 → f i < 18446744073709551616) (w : World) :
    Calls Try.prog 101 #[Wd4 f] w fun e w' => e = .returned (Dig (be (val f 4) 32)) ∧ Ext w w' := by
  have HF := Lib.hid hf
  clear hf
  obtain ⟨E, hE⟩ : ∃ E, be (val f 4) 32 = E := ⟨_, rfl⟩
  rw [hE]
  have HE : Hid (dgk f 4 = E) := Lib.hid hE
  have HEL : Hid (E.length = 32) := Lib.hid (by rw [← hE]; exact be_length _ _)
  clear hE
  go_enter Try.func101, Try.ntmps101
  obtain ⟨⟨h0, h1, h2⟩, hx, hs⟩ := three_new w (.cells (row64 f) 121) (.cells (row8 (Sha.zeros 32)) 27) (.cells (row8 (Sha.zeros 32)) 27)
  have H0 := Lib.hid h0
  go_wp2_with (first | (refine wpl_alloc_agg rfl 27 rfl _ zero27.1 ?_) | (refine wpl_load121 rfl _ rfl w.heap.size rfl f H0.out ?_))
  clear H0
  generalize ((w.alloc (.cells (row64 f) 121)).alloc (.cells (row8 (Sha.zeros 32)) 27)).alloc (.cells (row8 (Sha.zeros 32)) 27) = w0 at *
  have HB := Lib.hid (show Blk w0 (w.heap.size + 1) 27 (Sha.zeros 32) from h1)
  have HC := Lib.hid (show Blk w0 (w.heap.size + 2) 27 (dgk f 0) from h2)
  have HX := Lib.hid hx
  clear h0 h1 h2 hx hs
  go_loopw [7, 4, 5] (fun i q r wr => ∃ k : Nat, k ≤ 4 ∧ i = .int .i64 k ∧ Blk wr (w.heap.size + 1) 27 (Sha.zeros 32) ∧ Blk wr (w.heap.size + 2) 27 (dgk f k) ∧ Ext w wr) (fun i _ _ _ => 4 - (intOf i).toNat)
  case atStart => exact ⟨0, by omega, rfl, HB.out, HC.out, HX.out⟩
  case round =>
    obtain ⟨k, hk, rfl, hB, hC, hx⟩ := hrel
    clear HB HC HX
    have HB := Lib.hid hB
    have HC := Lib.hid hC
    have HX := Lib.hid hx
    have hl1 := hC.lt
    clear hB hC hx
    by_cases hlt : k < 4
    · rcases below4 k hlt with rfl|rfl|rfl|rfl
      · have hf1 := HF.out 0 (by omega)
        have hix : ∀ w, (Instr.index 121 (Wd4 f) (.int .i64 0)).run Try.prog w = .ok (W64 (f 0)) w := run_index121 f 0 (by omega)
        obtain ⟨x, hx⟩ : ∃ x, f 0 = x := ⟨_, rfl⟩
        have HNX := Lib.hid (dgk_next f HF.out 0 (by omega))
        rw [hx] at hf1 hix HNX
        have HX1 := Lib.hid hf1
        clear hf1 hx
        go_wp2
        refine wp_region_mt 6 (by kernel_rfl) (by kernel_rfl) ?_
        try simp only [Act.put, List.setIfInBounds_toArray, List.set_cons_succ, List.set_cons_zero]
        simp only [List.take_succ_cons, List.take_zero]
        repeat (refine gq rfl rfl rfl rfl (fun K hK => ?_); go_big_quiet_op; refine hK _ ?_; clear hK K)
        refine gcp rfl rfl rfl rfl 95 #[W64 x, .int .i64 8] (fun _ => by go_simp) 16 rfl (BsR (be x 8)) BsR.ext (fun y => (cput_any x (by have := HX1.out; omega) 8 (by omega) (by omega) _).mono (fun e w' ⟨v, he, hn⟩ => ⟨v, he, hn.bs, hn.ext⟩)) ?_
        simp only [Act.put, List.setIfInBounds_toArray, List.set_cons_succ, List.set_cons_zero]
        refine gm_end_at rfl [(16, BsR (be x 8))] rfl (fun xs y hk => ?_)
        have h16 : Bs (wr.ext y) (xs 16) (be x 8) := hk 16 (by simp) _ rfl
        clear hk
        simp only [fillM, Act.put, List.setIfInBounds_toArray, List.set_cons_succ, List.set_cons_zero]
        simp only [List.drop_succ_cons, List.drop_zero]
        have hxy : Ext wr (wr.ext y) := ext_ext wr y
        generalize wr.ext y = wy at *
        have HBY := Lib.hid (HB.out.ext hxy)
        have HCY := Lib.hid (HC.out.ext hxy)
        have HXY := Lib.hid (HX.out.trans hxy)
        clear HB HC HX hxy
        refine wpl_copy23 rfl _ _ rfl (w.heap.size + 2) 24 (32 - 24) (32 - 24) rfl _ rfl 27 (dgk f 0) (be x 8) h16 HCY.out (by rw [be_length]; omega) (by rw [be_length]; omega) (by rw [be_length, dgk_length _ _ (by omega)]; omega) ?_
        intro w1 h1 hu1
        have e1 : (dgk f 0).take 24 ++ be x 8 ++ (dgk f 0).drop (24 + (be x 8).length) = dgk f (0 + 1) := HNX.out
        rw [e1] at h1
        have H1 := Lib.hid h1
        have HU1 := Lib.hid hu1
        clear h1 hu1 e1
        go_wp2
        go_roundw
        case rel => exact ⟨0 + 1, by omega, by go_num, (HU1.out.old HBY.out.lt (by omega)).trans HBY.out, H1.out, HXY.out.upd_new HU1.out (by omega)⟩
        case measure => simp [intOf]
      · have hf1 := HF.out 1 (by omega)
        have hix : ∀ w, (Instr.index 121 (Wd4 f) (.int .i64 1)).run Try.prog w = .ok (W64 (f 1)) w := run_index121 f 1 (by omega)
        obtain ⟨x, hx⟩ : ∃ x, f 1 = x := ⟨_, rfl⟩
        have HNX := Lib.hid (dgk_next f HF.out 1 (by omega))
        rw [hx] at hf1 hix HNX
        have HX1 := Lib.hid hf1
        clear hf1 hx
        go_wp2
        refine wp_region_mt 6 (by kernel_rfl) (by kernel_rfl) ?_
        try simp only [Act.put, List.setIfInBounds_toArray, List.set_cons_succ, List.set_cons_zero]
        simp only [List.take_succ_cons, List.take_zero]
        repeat (refine gq rfl rfl rfl rfl (fun K hK => ?_); go_big_quiet_op; refine hK _ ?_; clear hK K)
        refine gcp rfl rfl rfl rfl 95 #[W64 x, .int .i64 8] (fun _ => by go_simp) 16 rfl (BsR (be x 8)) BsR.ext (fun y => (cput_any x (by have := HX1.out; omega) 8 (by omega) (by omega) _).mono (fun e w' ⟨v, he, hn⟩ => ⟨v, he, hn.bs, hn.ext⟩)) ?_
        simp only [Act.put, List.setIfInBounds_toArray, List.set_cons_succ, List.set_cons_zero]
        refine gm_end_at rfl [(16, BsR (be x 8))] rfl (fun xs y hk => ?_)
        have h16 : Bs (wr.ext y) (xs 16) (be x 8) := hk 16 (by simp) _ rfl
        clear hk
        simp only [fillM, Act.put, List.setIfInBounds_toArray, List.set_cons_succ, List.set_cons_zero]
        simp only [List.drop_succ_cons, List.drop_zero]
        have hxy : Ext wr (wr.ext y) := ext_ext wr y
        generalize wr.ext y = wy at *
        have HBY := Lib.hid (HB.out.ext hxy)
        have HCY := Lib.hid (HC.out.ext hxy)
        have HXY := Lib.hid (HX.out.trans hxy)
        clear HB HC HX hxy
        refine wpl_copy23 rfl _ _ rfl (w.heap.size + 2) 16 (32 - 16) (32 - 16) rfl _ rfl 27 (dgk f 1) (be x 8) h16 HCY.out (by rw [be_length]; omega) (by rw [be_length]; omega) (by rw [be_length, dgk_length _ _ (by omega)]; omega) ?_
        intro w1 h1 hu1
        have e1 : (dgk f 1).take 16 ++ be x 8 ++ (dgk f 1).drop (16 + (be x 8).length) = dgk f (1 + 1) := HNX.out
        rw [e1] at h1
        have H1 := Lib.hid h1
        have HU1 := Lib.hid hu1
        clear h1 hu1 e1
        go_wp2
        go_roundw
        case rel => exact ⟨1 + 1, by omega, by go_num, (HU1.out.old HBY.out.lt (by omega)).trans HBY.out, H1.out, HXY.out.upd_new HU1.out (by omega)⟩
        case measure => simp [intOf]
      · have hf1 := HF.out 2 (by omega)
        have hix : ∀ w, (Instr.index 121 (Wd4 f) (.int .i64 2)).run Try.prog w = .ok (W64 (f 2)) w := run_index121 f 2 (by omega)
        obtain ⟨x, hx⟩ : ∃ x, f 2 = x := ⟨_, rfl⟩
        have HNX := Lib.hid (dgk_next f HF.out 2 (by omega))
        rw [hx] at hf1 hix HNX
        have HX1 := Lib.hid hf1
        clear hf1 hx
        go_wp2
        refine wp_region_mt 6 (by kernel_rfl) (by kernel_rfl) ?_
        try simp only [Act.put, List.setIfInBounds_toArray, List.set_cons_succ, List.set_cons_zero]
        simp only [List.take_succ_cons, List.take_zero]
        repeat (refine gq rfl rfl rfl rfl (fun K hK => ?_); go_big_quiet_op; refine hK _ ?_; clear hK K)
        refine gcp rfl rfl rfl rfl 95 #[W64 x, .int .i64 8] (fun _ => by go_simp) 16 rfl (BsR (be x 8)) BsR.ext (fun y => (cput_any x (by have := HX1.out; omega) 8 (by omega) (by omega) _).mono (fun e w' ⟨v, he, hn⟩ => ⟨v, he, hn.bs, hn.ext⟩)) ?_
        simp only [Act.put, List.setIfInBounds_toArray, List.set_cons_succ, List.set_cons_zero]
        refine gm_end_at rfl [(16, BsR (be x 8))] rfl (fun xs y hk => ?_)
        have h16 : Bs (wr.ext y) (xs 16) (be x 8) := hk 16 (by simp) _ rfl
        clear hk
        simp only [fillM, Act.put, List.setIfInBounds_toArray, List.set_cons_succ, List.set_cons_zero]
        simp only [List.drop_succ_cons, List.drop_zero]
        have hxy : Ext wr (wr.ext y) := ext_ext wr y
        generalize wr.ext y = wy at *
        have HBY := Lib.hid (HB.out.ext hxy)
        have HCY := Lib.hid (HC.out.ext hxy)
        have HXY := Lib.hid (HX.out.trans hxy)
        clear HB HC HX hxy
        refine wpl_copy23 rfl _ _ rfl (w.heap.size + 2) 8 (32 - 8) (32 - 8) rfl _ rfl 27 (dgk f 2) (be x 8) h16 HCY.out (by rw [be_length]; omega) (by rw [be_length]; omega) (by rw [be_length, dgk_length _ _ (by omega)]; omega) ?_
        intro w1 h1 hu1
        have e1 : (dgk f 2).take 8 ++ be x 8 ++ (dgk f 2).drop (8 + (be x 8).length) = dgk f (2 + 1) := HNX.out
        rw [e1] at h1
        have H1 := Lib.hid h1
        have HU1 := Lib.hid hu1
        clear h1 hu1 e1
        go_wp2
        go_roundw
        case rel => exact ⟨2 + 1, by omega, by go_num, (HU1.out.old HBY.out.lt (by omega)).trans HBY.out, H1.out, HXY.out.upd_new HU1.out (by omega)⟩
        case measure => simp [intOf]
      · have hf1 := HF.out 3 (by omega)
        have hix : ∀ w, (Instr.index 121 (Wd4 f) (.int .i64 3)).run Try.prog w = .ok (W64 (f 3)) w := run_index121 f 3 (by omega)
        obtain ⟨x, hx⟩ : ∃ x, f 3 = x := ⟨_, rfl⟩
        have HNX := Lib.hid (dgk_next f HF.out 3 (by omega))
        rw [hx] at hf1 hix HNX
        have HX1 := Lib.hid hf1
        clear hf1 hx
        go_wp2
        refine wp_region_mt 6 (by kernel_rfl) (by kernel_rfl) ?_
        try simp only [Act.put, List.setIfInBounds_toArray, List.set_cons_succ, List.set_cons_zero]
        simp only [List.take_succ_cons, List.take_zero]
        repeat (refine gq rfl rfl rfl rfl (fun K hK => ?_); go_big_quiet_op; refine hK _ ?_; clear hK K)
        refine gcp rfl rfl rfl rfl 95 #[W64 x, .int .i64 8] (fun _ => by go_simp) 16 rfl (BsR (be x 8)) BsR.ext (fun y => (cput_any x (by have := HX1.out; omega) 8 (by omega) (by omega) _).mono (fun e w' ⟨v, he, hn⟩ => ⟨v, he, hn.bs, hn.ext⟩)) ?_
        simp only [Act.put, List.setIfInBounds_toArray, List.set_cons_succ, List.set_cons_zero]
        refine gm_end_at rfl [(16, BsR (be x 8))] rfl (fun xs y hk => ?_)
        have h16 : Bs (wr.ext y) (xs 16) (be x 8) := hk 16 (by simp) _ rfl
        clear hk
        simp only [fillM, Act.put, List.setIfInBounds_toArray, List.set_cons_succ, List.set_cons_zero]
        simp only [List.drop_succ_cons, List.drop_zero]
        have hxy : Ext wr (wr.ext y) := ext_ext wr y
        generalize wr.ext y = wy at *
        have HBY := Lib.hid (HB.out.ext hxy)
        have HCY := Lib.hid (HC.out.ext hxy)
        have HXY := Lib.hid (HX.out.trans hxy)
        clear HB HC HX hxy
        refine wpl_copy23 rfl _ _ rfl (w.heap.size + 2) 0 (32 - 0) (32 - 0) rfl _ rfl 27 (dgk f 3) (be x 8) h16 HCY.out (by rw [be_length]; omega) (by rw [be_length]; omega) (by rw [be_length, dgk_length _ _ (by omega)]; omega) ?_
        intro w1 h1 hu1
        have e1 : (dgk f 3).take 0 ++ be x 8 ++ (dgk f 3).drop (0 + (be x 8).length) = dgk f (3 + 1) := HNX.out
        rw [e1] at h1
        have H1 := Lib.hid h1
        have HU1 := Lib.hid hu1
        clear h1 hu1 e1
        go_wp2
        go_roundw
        case rel => exact ⟨3 + 1, by omega, by go_num, (HU1.out.old HBY.out.lt (by omega)).trans HBY.out, H1.out, HXY.out.upd_new HU1.out (by omega)⟩
        case measure => simp [intOf]
    · obtain rfl : k = 4 := by omega
      rw [HE.out] at HC
      go_wp2_with (first | (refine wpl_load27 rfl _ rfl (w.heap.size + 2) rfl E HEL.out HC.out ?_) | (refine wpl_store27 rfl _ _ rfl (w.heap.size + 1) E (Sha.zeros 32) rfl rfl HEL.out (by simp [Sha.zeros]) HB.out ?_; intro w8 h8 hu8; have H8 := Lib.hid h8; have HX8 := Lib.hid (HX.out.upd_new hu8 (Nat.le_succ _)); clear h8 hu8))
      exact ret27 rfl (w.heap.size + 1) E HEL.out rfl H8.out rfl ⟨rfl, HX8.out⟩
end Go.Proofs.Ytapojpjmeadabaa

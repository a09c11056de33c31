/- Each, Alls: several texts in one. -/
import Derived.Test.YtapojpjmeadabaaZOfs
import Derived.RangeFuncNested
import Derived.RangeFuncBound
import Derived.RangeFuncCalls
import Derived.RangeFuncLeaves
import Derived.Shelf.Abstract
import Derived.Shelf.RegionOpen
import Derived.WalkKit
import Derived.OwnWalkIn
import Derived.TacticsInMore
import Derived.LoopNIn
import Derived.LoopIn
section
/- sum.each, its closure: what all Items come to, one by one. -/
namespace Go.Proofs.Ytapojpjmeadabaa
open Go.RowKit Go.Shelf
set_option linter.unusedVariables false
set_option linter.unusedSimpArgs false
attribute [local go_sem] Oper.semAt_some

set_option maxHeartbeats 1000000 in
theorem each_any (kv lv : Value) (A A' : Option Addr) (n n' c c' : Nat) (hkv : kv = .slice A n c) (hlv : lv = .slice A' n' c') (w : World) :
    Calls Try.prog 97 #[kv, lv] w fun e w' => e = .returned (.func (.func 120) #[] #[.pointer (some ⟨w.heap.size + 1, 0, none⟩), .pointer (some ⟨w.heap.size, 0, none⟩)]) ∧ w' = (w.alloc (.cells #[kv] 23)).alloc (.cells #[lv] 38) := by
  subst hkv; subst hlv
  go_enter Try.func97, Try.ntmps97
  go_wp2
  go_ret
  exact ⟨rfl, rfl⟩

/-- A digest, as the loop's body is told of it. -/
abbrev DL := { l : List UInt8 // l.length = 32 }
def dls (key : List UInt8) (xs : List It) : List DL := xs.map fun x => ⟨ofD key x.z x.b, ofD_length _ _ _⟩
theorem dls_length (key : List UInt8) (xs : List It) : (dls key xs).length = xs.length := by simp [dls]
theorem dls_next (key : List UInt8) (xs : List It) (k : Nat) (hk : k < xs.length) : (dls key xs).take (k + 1) = (dls key xs).take k ++ [⟨ofD key (xs.getD k default).z (xs.getD k default).b, ofD_length _ _ _⟩] := by
  rw [List.take_succ_eq_append_getElem (by rw [dls_length]; exact hk)]
  simp [dls, List.getD, hk]
/-- What a round that goes on keeps: what lay below n₀, and the two boxes behind. -/
def KpE (n₀ : Nat) (W W' : World) : Prop := Below n₀ W W' ∧ W'.heap[n₀ + 2]? = W.heap[n₀ + 2]? ∧ W'.heap[n₀ + 3]? = W.heap[n₀ + 3]?
theorem grown_of_ext {w w' : World} (h : Ext w w') : w.grownBy w' none := ⟨h.os, h.tape, h.output, h.size, fun i hi _ => h.block hi⟩
/-- The closure's world. -/
structure EachW (wall : World) (kv lv : Value) (wr : World) : Prop where
  ext : Ext wall wr
  kb : wr.heap[wall.heap.size + 2]? = some (.cells #[kv] 23 (0, 0))
  lb : wr.heap[wall.heap.size + 3]? = some (.cells #[lv] 38 (0, 0))
theorem EachW.grow {wall : World} {kv lv : Value} {w w' : World} (h : EachW wall kv lv w) (hx : Ext w w') : EachW wall kv lv w' :=
  ⟨h.ext.trans hx, (hx.block (Array.getElem?_eq_some_iff.1 h.kb).1).trans h.kb, (hx.block (Array.getElem?_eq_some_iff.1 h.lb).1).trans h.lb⟩
theorem EachW.kept {wall : World} {kv lv : Value} {w w' : World} (h : EachW wall kv lv w) (hx : KpE wall.heap.size w w') : EachW wall kv lv w' :=
  ⟨Below.trans h.ext hx.1, hx.2.1.trans h.kb, hx.2.2.trans h.lb⟩
theorem EachW.kc {wall : World} {kv lv : Value} {w : World} (h : EachW wall kv lv w) : w.cell? ⟨wall.heap.size + 2, 0, none⟩ = some kv := by rw [cell_of_row _ _ _ _ _ _ h.kb]; rfl
theorem EachW.lc {wall : World} {kv lv : Value} {w : World} (h : EachW wall kv lv w) : w.cell? ⟨wall.heap.size + 3, 0, none⟩ = some lv := by rw [cell_of_row _ _ _ _ _ _ h.lb]; rfl
set_option maxRecDepth 100000 in
set_option maxHeartbeats 2000000 in
theorem each1_in (n : Nat) (l : Nat) (wall : World) (kv lv : Value) (key : List UInt8) (xs : List It) (hK : Bs wall kv key) (hI : Its wall lv xs) (hk : key.length ≤ 2147483648) (hb : ∀ x ∈ xs, x.b.length ≤ 1073741000)
    (J Jx : List DL → World → Prop) (B : Nat) (hJ : AbidesFrom B J)
    (hY : ∀ pre x W, J pre W → pre.length < xs.length → YieldAt Fence.wide (n - 1) Try.prog l #[Dig x.1] W fun e W' =>
      (e = .returned (.bool true) ∧ J (pre ++ [x]) W' ∧ KpE wall.heap.size W W') ∨ (e = .returned (.bool false) ∧ Jx (pre ++ [x]) W'))
    (W : World) (hW : EachW wall kv lv W) (h0 : J [] W) :
    CallsIn Fence.wide n Try.prog 120 #[.func (.yield l) #[] #[], .pointer (some ⟨wall.heap.size + 3, 0, none⟩), .pointer (some ⟨wall.heap.size + 2, 0, none⟩)] W fun e W' => (∃ v, e = .returned v) ∧
      ((∃ ys, ys = dls key xs ∧ J ys W') ∨ (∃ pre, True ∧ Jx pre W')) := by
  obtain ⟨A, cap, rfl, hcap, hcm, _, _⟩ := hI.rd.is
  obtain ⟨A2, cap2, rfl, _, _, _, _⟩ := hK.is
  unfold maxLen at hcm
  have hlc := hW.lc
  have HW := Lib.hid hW
  have HI := Lib.hid hI
  have HK := Lib.hid hK
  clear hW hI hK
  refine callsIn_of_wp Try.func120 rfl trivial ?_ rfl
  simp only [Try.ntmps120, List.size_toArray, List.length_cons, List.length_nil, Nat.reduceAdd, Nat.reduceSub, Array.replicate_succ, Array.replicate_zero, List.push_toArray, List.append_toArray, List.nil_append, List.cons_append]
  gi_wp2
  gi_loopw [8] (fun i wr => ∃ k : Nat, k ≤ xs.length ∧ i = .int .i64 k ∧ J ((dls key xs).take k) wr ∧ EachW wall (.slice A2 key.length cap2) (.slice A xs.length cap) wr) (fun i _ => xs.length - (intOf i).toNat)
  case atStart => exact ⟨0, Nat.zero_le _, rfl, h0, HW.out⟩
  case round =>
    obtain ⟨k, hk1, rfl, hJs, hE⟩ := hrel
    by_cases hlt : k < xs.length
    · have hIx := HI.out.ext hE.ext
      obtain ⟨b, o, cap', hA, hbl, hc0, hc1⟩ := hIx.at_ k hlt
      injection hA with hA1 hA2 hA3
      subst hA1
      subst hA3
      have hB := hIx.each _ (It.mem hlt)
      have hbl1 := hb _ (It.mem hlt)
      have hnx := dls_next key xs k hlt
      generalize xs.getD k default = x at *
      obtain ⟨A3, cap3, e3, _⟩ := hB.is
      rw [e3] at hc1 hB
      have HB := Lib.hid hB
      have HNX := Lib.hid hnx
      have HE := Lib.hid hE
      have hkc := hE.kc
      have hkl : wall.heap.size + 2 < wr.heap.size := (Array.getElem?_eq_some_iff.1 hE.kb).1
      obtain ⟨ds, hds⟩ : ∃ ds, (dls key xs).take k = ds := ⟨_, rfl⟩
      have hdl : ds.length < xs.length := by rw [← hds, List.length_take, dls_length]; omega
      rw [hds] at hJs HNX
      clear hB hnx hE hIx hds e3 hlc
      have hxa : Ext wr (wr.alloc (.cells #[.int .i64 x.z, .slice A3 x.b.length cap3] 50)) := (Ext.refl wr).alloc _
      gi_wp2
      refine ⟨trivial, fun h => (by cases h), ?_⟩
      refine (callsIn_wide.2 (of_any _ _ key x.b x.z _ (Rd.ext HK.out (HE.out.ext.trans hxa)) (Rd.ext HB.out hxa) hk hbl1)).mono ?_
      rintro e w3 ⟨rfl, hx3⟩
      have HE3 := Lib.hid (HE.out.grow (hxa.trans hx3))
      have HJ3 := Lib.hid (hJ _ _ _ none hJs (grown_of_ext (hxa.trans hx3)) (fun r e => by cases e))
      clear hx3
      obtain ⟨fn, tmps, assign, body, hy, hR⟩ := hY ds ⟨ofD key x.z x.b, ofD_length _ _ _⟩ w3 HJ3.out hdl
      dsimp only at hy
      gi_wp2
      refine ⟨fun h => (by cases h), ?_⟩
      refine hR.mono ?_
      rintro e W3 (⟨rfl, hJ4, hk4⟩ | ⟨rfl, hJx4⟩)
      · rw [← HNX.out] at hJ4
        have hE4 := HE3.out.kept hk4
        clear hy hR hk4
        gi_wp2
        go_roundw
        case rel => exact ⟨k + 1, by omega, by go_num, hJ4, hE4⟩
        case measure => simp [intOf]; omega
      · clear hy hR
        gi_wp2
        refine bodyPost_ret (results_none rfl _ _ _) rfl ?_
        exact ⟨⟨_, rfl⟩, .inr ⟨_, trivial, hJx4⟩⟩
    · obtain rfl : k = xs.length := by omega
      gi_wp2
      go_end0
      exact ⟨⟨_, rfl⟩, .inl ⟨_, rfl, by rw [← dls_length key xs, List.take_length] at hJs; exact hJs⟩⟩
theorem each_stops (n : Nat) (wall : World) (kv lv : Value) (key : List UInt8) (xs : List It) (hK : Bs wall kv key) (hI : Its wall lv xs) (hk : key.length ≤ 2147483648) (hb : ∀ x ∈ xs, x.b.length ≤ 1073741000)
    (w : World) (hW : EachW wall kv lv w) :
    SeqStopsK Fence.wide n Try.prog 120 #[.pointer (some ⟨wall.heap.size + 3, 0, none⟩), .pointer (some ⟨wall.heap.size + 2, 0, none⟩)] (fun x : DL => #[Dig x.1]) (KpE wall.heap.size) (fun ys => ys = dls key xs) (fun _ => True) xs.length w :=
  fun l J Jx W hWW hJ _ hY h0 => each1_in n l wall kv lv key xs hK hI hk hb J Jx W.heap.size hJ hY W (hW.grow hWW) h0
end Go.Proofs.Ytapojpjmeadabaa
end

section
/- sum.All: a range over sum.each. -/
namespace Go.Proofs.Ytapojpjmeadabaa
open Go.RowKit Go.Shelf
set_option linter.unusedVariables false
set_option linter.unusedSimpArgs false
attribute [local go_sem] Oper.semAt_some

section
variable {l n : Nat} {ops : Array Oper} {rest : List Oper} {o : Oper} {a : Act} {w : World} {Q : Exit → Act → World → Prop}
/-- In a round: an operation that is run. -/
theorem inR_value (hgd : o.guard = none) (hnd : ∀ c, o.op ≠ .defer c) (v : Value) (w' : World) (hr : (execOp a.eval o).run Try.prog w = .ok (.value v) w')
    (h : wpListIn (Fence.wide.inRound l) n Try.prog ops Q rest (a.put o.dst v) w') : wpListIn (Fence.wide.inRound l) n Try.prog ops Q (o :: rest) a w :=
  wpListIn_plain hgd fun K hK => ⟨fun _ _ => trivial, by
    rw [Oper.semAt_plain _ _ _ hnd, hr]
    exact hK _ _ h⟩
theorem inR_skip (hgd : o.guard = none) (hnd : ∀ c, o.op ≠ .defer c) (w' : World) (hr : (execOp a.eval o).run Try.prog w = .ok .skip w')
    (h : wpListIn (Fence.wide.inRound l) n Try.prog ops Q rest (a.put o.dst undef) w') : wpListIn (Fence.wide.inRound l) n Try.prog ops Q (o :: rest) a w :=
  wpListIn_plain hgd fun K hK => ⟨fun _ _ => trivial, by
    rw [Oper.semAt_plain _ _ _ hnd, hr]
    exact hK _ _ h⟩
theorem inR_alloc27 (hgd : o.guard = none) (ho : o.op = .alloc 27) (h : wpListIn (Fence.wide.inRound l) n Try.prog ops Q rest (a.put o.dst (.pointer (some ⟨w.heap.size, 0, none⟩))) (w.alloc (.cells (row8 (Sha.zeros 32)) 27))) :
    wpListIn (Fence.wide.inRound l) n Try.prog ops Q (o :: rest) a w :=
  inR_value hgd (fun c e => by rw [ho] at e; cases e) _ _ (by
    unfold execOp
    simp only [ho, Instr.alloc, Sem.run_bind, zero27.1, Result.andThen_ok]
    rfl) h
theorem inR_load27 (hgd : o.guard = none) (x : Operand) (ho : o.op = .load 27 x) (g : Nat) (hx : a.eval x = .pointer (some ⟨g, 0, none⟩)) (d : List UInt8) (hl : d.length = 32) (hg : Blk w g 27 d)
    (h : wpListIn (Fence.wide.inRound l) n Try.prog ops Q rest (a.put o.dst (Dig d)) w) : wpListIn (Fence.wide.inRound l) n Try.prog ops Q (o :: rest) a w :=
  inR_value hgd (fun c e => by rw [ho] at e; cases e) _ _ (exec_load27 x ho g hx d hl w hg) h
theorem inR_store27 (hgd : o.guard = none) (x y : Operand) (ho : o.op = .store 27 x y) (g : Nat) (d d0 : List UInt8) (hx : a.eval x = .pointer (some ⟨g, 0, none⟩)) (hy : a.eval y = Dig d) (hl : d.length = 32) (hl0 : d0.length = 32) (hg : Blk w g 27 d0)
    (h : ∀ w', Blk w' g 27 d → Upd w w' g → wpListIn (Fence.wide.inRound l) n Try.prog ops Q rest (a.put o.dst undef) w') : wpListIn (Fence.wide.inRound l) n Try.prog ops Q (o :: rest) a w :=
  inR_skip hgd (fun c e => by rw [ho] at e; cases e) (w.setRow g (row8 d)) (by
    unfold execOp
    simp only [ho, hx, hy, Instr.storeAt, Instr.sureAddr, Sem.run_bind, Sem.run_pure, Result.andThen_ok, run_storeVar_row w g 27 27 (row8 d0) (row8 d) hg (size27 d hl) (by rw [row8_size, row8_size, hl, hl0]) (row8_one d)])
    (h _ (setRow_heap _ _ _ _ _ _ hg) ⟨rfl, rfl, rfl, by simp, fun k _ hk => setRow_other w g k _ (fun e => hk (by rw [e]))⟩)
end
/-- What digests come to. -/
def accD (pre : List DL) : List UInt8 := pre.foldl (fun d x => addD d x.1) (Sha.zeros 32)
theorem accD_snoc (pre : List DL) (x : DL) : accD (pre ++ [x]) = addD (accD pre) x.1 := by simp [accD]
theorem accD_length (pre : List DL) : (accD pre).length = 32 := by
  have h : ∀ (xs : List DL) (d : List UInt8), d.length = 32 → (xs.foldl (fun d x => addD d x.1) d).length = 32 := by
    intro xs
    induction xs with
    | nil => intro d hd; exact hd
    | cons x r ih => intro d hd; exact ih _ (addD_length _ _)
  exact h pre _ (by simp [Sha.zeros])
theorem accD_all (key : List UInt8) (xs : List It) : accD (dls key xs) = allD key xs := by simp [accD, dls, allD, List.foldl_map]
theorem Blk.kept {W W' : World} {row : Option Nat} {g : Nat} {d : List UInt8} {B : Nat} (h : Blk W g 27 d) (hg : W.grownBy W' row) (hr : ∀ r, row = some r → B ≤ r ∧ ∃ o : Obj, W.heap[r]? = some o ∧ o.isCells = false) : Blk W' g 27 d :=
  (hg.block g h.lt (fun e => by
    obtain ⟨_, o, ho, hc⟩ := hr g e.symm
    rw [show W.heap[g]? = _ from h] at ho
    cases ho
    cases hc)).trans h
theorem KpE.of_ext {n₀ : Nat} {W W' : World} (h : Ext W W') (h0 : n₀ + 4 ≤ W.heap.size) : KpE n₀ W W' :=
  ⟨⟨h.os, h.tape, h.output, h.size, fun k hk => h.block (by omega)⟩, h.block (by omega), h.block (by omega)⟩
theorem KpE.of_upd {n₀ : Nat} {W W' : World} (h : Upd W W' (n₀ + 1)) (h0 : n₀ + 4 ≤ W.heap.size) : KpE n₀ W W' :=
  ⟨⟨h.os, h.tape, h.output, h.size, fun k hk => h.old (by omega) (by omega)⟩, h.old (by omega) (by omega), h.old (by omega) (by omega)⟩
set_option maxRecDepth 100000 in
set_option maxHeartbeats 2000000 in
theorem all_any (kv lv : Value) (key : List UInt8) (xs : List It) (w : World) (hK : Bs w kv key) (hI : Its w lv xs) (hk : key.length ≤ 2147483648) (hb : ∀ x ∈ xs, x.b.length ≤ 1073741000) :
    Calls Try.prog 57 #[kv, lv] w fun e w' => e = .returned (Dig (allD key xs)) ∧ Ext w w' := by
  obtain ⟨A, cap, rfl, _, _, _, _⟩ := hI.rd.is
  obtain ⟨A2, cap2, rfl, _, _, _, _⟩ := hK.is
  have HST := Lib.hid (fun W0 hE => each_stops 8 w _ _ key xs hK hI hk hb W0 hE)
  obtain ⟨D, hD⟩ : ∃ D, allD key xs = D := ⟨_, rfl⟩
  have HD : Hid (accD (dls key xs) = D) := Lib.hid (by rw [accD_all, hD])
  have HDl : Hid (D.length = 32) := Lib.hid (by rw [← hD]; exact allD_length _ _)
  rw [hD]
  clear hD
  refine (callsIn_wide (n := 9)).1 ?_
  refine callsIn_of_wp_marks Try.func57 rfl trivial ?_ rfl
  simp only [Try.ntmps57, List.size_toArray, List.length_cons, List.length_nil, Nat.reduceAdd, Nat.reduceSub, Array.replicate_succ, Array.replicate_zero, List.push_toArray, List.append_toArray, List.nil_append, List.cons_append]
  refine wpIn_wide.2 ?_
  go_wp2_with (first | (refine wpl_alloc_agg rfl 27 rfl _ zero27.1 ?_) | (go_at_call 97; go_must (refine (each_any _ _ A2 A key.length xs.length cap2 cap rfl rfl _).mono ?_; rintro e w0 ⟨rfl, rfl⟩)))
  have hs1 : ((w.alloc (.cells (row8 (Sha.zeros 32)) 27)).alloc (.cells (row8 (Sha.zeros 32)) 27)).heap.size = w.heap.size + 2 := by simp
  obtain ⟨w1, hw1⟩ : ∃ w1, (w.alloc (.cells (row8 (Sha.zeros 32)) 27)).alloc (.cells (row8 (Sha.zeros 32)) 27) = w1 := ⟨_, rfl⟩
  have hb0 : Blk w1 w.heap.size 27 (Sha.zeros 32) := by
    rw [← hw1]
    exact (((Ext.refl (w.alloc (.cells (row8 (Sha.zeros 32)) 27))).alloc (.cells (row8 (Sha.zeros 32)) 27)).block (by simp)).trans (heap_alloc_last w _)
  have hb1 : Blk w1 (w.heap.size + 1) 27 (Sha.zeros 32) := by
    rw [← hw1]
    have h := heap_alloc_last (w.alloc (.cells (row8 (Sha.zeros 32)) 27)) (.cells (row8 (Sha.zeros 32)) 27)
    rw [World.size_alloc] at h
    exact h
  have hx1 : Ext w w1 := by rw [← hw1]; exact ((Ext.refl w).alloc _).alloc _
  rw [hw1] at hs1 ⊢
  clear hw1
  have hs2 : ((w1.alloc (.cells #[.slice A2 key.length cap2] 23)).alloc (.cells #[.slice A xs.length cap] 38)).heap.size = w.heap.size + 4 := by simp [hs1]
  have hE : EachW w (.slice A2 key.length cap2) (.slice A xs.length cap) ((w1.alloc (.cells #[.slice A2 key.length cap2] 23)).alloc (.cells #[.slice A xs.length cap] 38)) := by
    refine ⟨(hx1.alloc _).alloc _, ?_, ?_⟩
    · rw [← hs1]
      exact (((Ext.refl (w1.alloc (.cells #[.slice A2 key.length cap2] 23))).alloc (.cells #[.slice A xs.length cap] 38)).block (by simp)).trans (heap_alloc_last w1 _)
    · have h := heap_alloc_last (w1.alloc (.cells #[.slice A2 key.length cap2] 23)) (.cells #[.slice A xs.length cap] 38)
      rw [World.size_alloc, hs1] at h
      exact h
  have hx2 : Ext w1 ((w1.alloc (.cells #[.slice A2 key.length cap2] 23)).alloc (.cells #[.slice A xs.length cap] 38)) := ((Ext.refl w1).alloc _).alloc _
  generalize (w1.alloc (.cells #[.slice A2 key.length cap2] 23)).alloc (.cells #[.slice A xs.length cap] 38) = w2 at *
  have hb0 := Blk.ext hb0 hx2
  have hb1 := Blk.ext hb1 hx2
  have hxw := hE.ext
  refine (wpIn_wide (n := 9)).1 ?_
  refine wpIn_rangeFunc_ownH rfl (by decide) (gf := 120) (lb := #[.pointer (some ⟨w.heap.size + 3, 0, none⟩), .pointer (some ⟨w.heap.size + 2, 0, none⟩)]) rfl trivial (enters_of Try.func120 (by kernel_rfl) rfl)
    (HST.out w2 hE) (fun h k => ⟨belowK_t h.1 k.1, k.2.1.trans h.2.1, k.2.2.trans h.2.2⟩) (fun W l o o' h1 h2 h3 h4 => ⟨belowK_b (w := w2) (by omega) W l o o' h1 h2 h3 h4, World.putObj_heap_other (by omega), World.putObj_heap_other (by omega)⟩) (Below.refl _ _) (fun _ => rfl)
    (fun pre W => ((Blk W w.heap.size 27 (Sha.zeros 32) ∧ Blk W (w.heap.size + 1) 27 (accD pre)) ∧ w2.heap.size ≤ W.heap.size) ∧ Below w.heap.size w W)
    (fun _ _ _ => False)
    (OwnFrom.and (fun s X Y row hs hg hr => ⟨⟨hs.1.1.kept hg hr, hs.1.2.kept hg hr⟩, Nat.le_trans hs.2 hg.size⟩) (ownFrom_below (Nat.le_refl _) (by omega)))
    (fun _ _ _ _ _ hs _ _ => hs)
    ⟨⟨⟨hb0, hb1⟩, Nat.le_refl _⟩, hxw⟩
    (fun x a' W => ∃ Bx, Blk W Bx 27 x.1 ∧ w2.heap.size ≤ Bx ∧ a' = { tmps := #[.slice A2 key.length cap2, .slice A xs.length cap, undef, undef, .pointer (some ⟨w.heap.size, 0, none⟩), .pointer (some ⟨w.heap.size + 1, 0, none⟩), .pointer (some ⟨Bx, 0, none⟩), .slice A2 key.length cap2, .slice A xs.length cap, .func (.func 120) #[] #[.pointer (some ⟨w.heap.size + 3, 0, none⟩), .pointer (some ⟨w.heap.size + 2, 0, none⟩)], Dig x.1, undef, undef, undef, undef], defers := [] })
    (fun x a' _ X Y row hs hg hr => by obtain ⟨Bx, h1, h2, h3⟩ := hs; exact ⟨Bx, h1.kept hg hr, h2, h3⟩)
    ?assign ?body ?done ?stop
  case assign =>
    rintro l pre x W K ⟨⟨⟨h0, h1⟩, hsz⟩, hB⟩ hK
    have h0' := Lib.hid h0
    have h1' := Lib.hid h1
    have hB' := Lib.hid hB
    have hKK := Lib.hid hK
    clear h0 h1 hB hK
    refine wpIn_region_lit ?_
    simp
    refine inR_alloc27 rfl rfl ?_
    simp only [Act.put, List.setIfInBounds_toArray, List.set_cons_succ, List.set_cons_zero]
    refine inR_store27 rfl _ _ rfl W.heap.size x.1 (Sha.zeros 32) rfl rfl x.2 (by simp [Sha.zeros]) (heap_alloc_last W _) ?_
    intro W2 hw2 hu2
    have hxx : Ext W W2 := ((Ext.refl W).alloc _).upd_new hu2 (Nat.le_refl _)
    exact hKK.out _ _ (KeepsFrom.of_grownBy (grown_of_ext hxx) (fun j e => by cases e)) (KpE.of_ext hxx (by omega)) ⟨⟨⟨Blk.ext h0'.out hxx, Blk.ext h1'.out hxx⟩, Nat.le_trans hsz hxx.size⟩, Below.trans hB'.out (KpE.of_ext hxx (by omega)).1⟩ ⟨W.heap.size, hw2, hsz, rfl⟩
  case body =>
    rintro l pre x a' W hl ⟨r, hr⟩ ⟨⟨⟨h0, h1⟩, hsz⟩, hB⟩ ⟨Bx, hBx, hge, rfl⟩ hlt
    have h0' := Lib.hid h0
    have h1' := Lib.hid h1
    have hB' := Lib.hid hB
    have hBx' := Lib.hid hBx
    clear h0 h1 hB hBx
    gi_wp2_with (first | (refine inR_load27 rfl _ rfl (w.heap.size + 1) rfl (accD pre) (accD_length _) h1'.out ?_) | (refine inR_load27 rfl _ rfl Bx rfl x.1 x.2 hBx'.out ?_))
    refine ⟨trivial, ?_⟩
    refine (CallsIn.inRound l (callsIn_wide.2 (add_any (accD pre) x.1 (accD_length _) x.2 W))).mono ?_
    rintro e W1 ⟨rfl, hx1⟩
    rw [← accD_snoc]
    gi_wp2_with (refine inR_store27 rfl _ _ rfl (w.heap.size + 1) (accD (pre ++ [x])) (accD pre) rfl rfl (accD_length _) (accD_length _) (Blk.ext h1'.out hx1) ?_; intro W2 hw2 hu2)
    have hu : Upd W W2 (w.heap.size + 1) := (Upd.of_ext hx1 _).trans hu2
    have hkp : KpE w.heap.size W W2 := KpE.of_upd hu (by omega)
    exact ⟨KeepsFrom.of_grownBy hu (fun j e => by cases e; omega), hkp, ⟨⟨(hu.old h0'.out.lt (by omega)).trans h0'.out, hw2⟩, Nat.le_trans hsz hu.size⟩, Below.trans hB'.out hkp.1⟩
  case done =>
    rintro D' ys W hD rfl ⟨⟨⟨h0, h1⟩, hsz⟩, hB⟩ hK
    rw [HD.out] at h1
    have H0 := Lib.hid h0
    have H1 := Lib.hid h1
    have HB' := Lib.hid hB
    have HKK := Lib.hid hK
    clear h0 h1 hB hK
    go_wp2_with (first | (refine wpl_load27 rfl _ rfl (w.heap.size + 1) rfl D HDl.out H1.out ?_) | (refine wpl_store27 rfl _ _ rfl w.heap.size D (Sha.zeros 32) rfl rfl HDl.out (by simp [Sha.zeros]) H0.out ?_; intro w8 h8 hu8; have H8 := Lib.hid h8; have HU8 := Lib.hid hu8; clear h8 hu8))
    have hDl : D' < W.heap.size := (Array.getElem?_eq_some_iff.1 HKK.out).1
    have hK8 : w8.heap[D']? = some (.deferred (some [])) := (HU8.out.old hDl (by omega)).trans HKK.out
    refine ⟨by simp, .inl ⟨_, _, rfl, run_takeDeferred hK8, ?_⟩⟩
    have h9 : Blk (w8.putObj D' (.deferred none)) w.heap.size 27 D := (World.putObj_heap_other (by omega)).trans H8.out
    have hx8 : Ext w w8 := Ext.upd_new HB'.out HU8.out (Nat.le_refl _)
    exact ⟨_, results_cell_row rfl _ _ w.heap.size 27 _ (0, 0) _ rfl h9 Try.underlying27 rfl (size27 D HDl.out), rfl, Below.trans hx8 (belowK_b (w := w) (Nat.le_refl _) w8 D' _ (.deferred none) (by omega) hK8 rfl rfl)⟩
  case stop =>
    rintro D' c pre W _ _ h _
    exact h.elim
end Go.Proofs.Ytapojpjmeadabaa
end

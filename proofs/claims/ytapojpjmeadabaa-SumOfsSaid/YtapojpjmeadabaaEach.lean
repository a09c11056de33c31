/- sum.each, its closure: what all Items come to, one by one. -/
import Derived.Test.YtapojpjmeadabaaItems
import Derived.RangeFuncNested
import Derived.RangeFuncBound
import Derived.RangeFuncCalls
import Derived.RangeFuncLeaves
import Derived.Shelf.Abstract
import Derived.Shelf.RegionOpen
import Derived.WalkKit
import Derived.OwnWalkIn
import Derived.TacticsInMore
import Derived.LoopNIn
import Derived.LoopIn
namespace Go.Proofs.Ytapojpjmeadabaa
open Go.RowKit Go.Shelf
set_option linter.unusedVariables false
set_option linter.unusedSimpArgs false
attribute [local go_sem] Oper.semAt_some

set_option maxHeartbeats 1000000 in
theorem each_any (kv lv : Value) (A A' : Option Addr) (n n' c c' : Nat) (hkv : kv = .slice A n c) (hlv : lv = .slice A' n' c') (w : World) :
    Calls Try.prog 97 #[kv, lv] w fun e w' => e = .returned (.func (.func 120) #[] #[.pointer (some ⟨w.heap.size + 1, 0, none⟩), .pointer (some ⟨w.heap.size, 0, none⟩)]) ∧ w' = (w.alloc (.cells #[kv] 23)).alloc (.cells #[lv] 38) := by
  subst hkv; subst hlv
  go_enter Try.func97, Try.ntmps97
  go_wp2
  go_ret
  exact ⟨rfl, rfl⟩

/-- A digest, as the loop's body is told of it. -/
abbrev DL := { l : List UInt8 // l.length = 32 }
def dls (key : List UInt8) (xs : List It) : List DL := xs.map fun x => ⟨ofD key x.z x.b, ofD_length _ _ _⟩
theorem dls_length (key : List UInt8) (xs : List It) : (dls key xs).length = xs.length := by simp [dls]
theorem dls_next (key : List UInt8) (xs : List It) (k : Nat) (hk : k < xs.length) : (dls key xs).take (k + 1) = (dls key xs).take k ++ [⟨ofD key (xs.getD k default).z (xs.getD k default).b, ofD_length _ _ _⟩] := by
  rw [List.take_succ_eq_append_getElem (by rw [dls_length]; exact hk)]
  simp [dls, List.getD, hk]
/-- What a round that goes on keeps: what lay below n₀, and the two boxes behind. -/
def KpE (n₀ : Nat) (W W' : World) : Prop := Below n₀ W W' ∧ W'.heap[n₀ + 2]? = W.heap[n₀ + 2]? ∧ W'.heap[n₀ + 3]? = W.heap[n₀ + 3]?
theorem grown_of_ext {w w' : World} (h : Ext w w') : w.grownBy w' none := ⟨h.os, h.tape, h.output, h.size, fun i hi _ => h.block hi⟩
/-- The closure's world. -/
structure EachW (wall : World) (kv lv : Value) (wr : World) : Prop where
  ext : Ext wall wr
  kb : wr.heap[wall.heap.size + 2]? = some (.cells #[kv] 23 (0, 0))
  lb : wr.heap[wall.heap.size + 3]? = some (.cells #[lv] 38 (0, 0))
theorem EachW.grow {wall : World} {kv lv : Value} {w w' : World} (h : EachW wall kv lv w) (hx : Ext w w') : EachW wall kv lv w' :=
  ⟨h.ext.trans hx, (hx.block (Array.getElem?_eq_some_iff.1 h.kb).1).trans h.kb, (hx.block (Array.getElem?_eq_some_iff.1 h.lb).1).trans h.lb⟩
theorem EachW.kept {wall : World} {kv lv : Value} {w w' : World} (h : EachW wall kv lv w) (hx : KpE wall.heap.size w w') : EachW wall kv lv w' :=
  ⟨Below.trans h.ext hx.1, hx.2.1.trans h.kb, hx.2.2.trans h.lb⟩
theorem EachW.kc {wall : World} {kv lv : Value} {w : World} (h : EachW wall kv lv w) : w.cell? ⟨wall.heap.size + 2, 0, none⟩ = some kv := by rw [cell_of_row _ _ _ _ _ _ h.kb]; rfl
theorem EachW.lc {wall : World} {kv lv : Value} {w : World} (h : EachW wall kv lv w) : w.cell? ⟨wall.heap.size + 3, 0, none⟩ = some lv := by rw [cell_of_row _ _ _ _ _ _ h.lb]; rfl
set_option maxRecDepth 100000 in
set_option maxHeartbeats 2000000 in
theorem each1_in (n : Nat) (l : Nat) (wall : World) (kv lv : Value) (key : List UInt8) (xs : List It) (hK : Bs wall kv key) (hI : Its wall lv xs) (hk : key.length ≤ 2147483648) (hb : ∀ x ∈ xs, x.b.length ≤ 1073741000)
    (J Jx : List DL → World → Prop) (B : Nat) (hJ : AbidesFrom B J)
    (hY : ∀ pre x W, J pre W → pre.length < xs.length → YieldAt Fence.wide (n - 1) Try.prog l #[Dig x.1] W fun e W' =>
      (e = .returned (.bool true) ∧ J (pre ++ [x]) W' ∧ KpE wall.heap.size W W') ∨ (e = .returned (.bool false) ∧ Jx (pre ++ [x]) W'))
    (W : World) (hW : EachW wall kv lv W) (h0 : J [] W) :
    CallsIn Fence.wide n Try.prog 120 #[.func (.yield l) #[] #[], .pointer (some ⟨wall.heap.size + 3, 0, none⟩), .pointer (some ⟨wall.heap.size + 2, 0, none⟩)] W fun e W' => (∃ v, e = .returned v) ∧
      ((∃ ys, ys = dls key xs ∧ J ys W') ∨ (∃ pre, True ∧ Jx pre W')) := by
  obtain ⟨A, cap, rfl, hcap, hcm, _, _⟩ := hI.rd.is
  obtain ⟨A2, cap2, rfl, _, _, _, _⟩ := hK.is
  unfold maxLen at hcm
  have hlc := hW.lc
  have HW := Lib.hid hW
  have HI := Lib.hid hI
  have HK := Lib.hid hK
  clear hW hI hK
  refine callsIn_of_wp Try.func120 rfl trivial ?_ rfl
  simp only [Try.ntmps120, List.size_toArray, List.length_cons, List.length_nil, Nat.reduceAdd, Nat.reduceSub, Array.replicate_succ, Array.replicate_zero, List.push_toArray, List.append_toArray, List.nil_append, List.cons_append]
  gi_wp2
  gi_loopw [8] (fun i wr => ∃ k : Nat, k ≤ xs.length ∧ i = .int .i64 k ∧ J ((dls key xs).take k) wr ∧ EachW wall (.slice A2 key.length cap2) (.slice A xs.length cap) wr) (fun i _ => xs.length - (intOf i).toNat)
  case atStart => exact ⟨0, Nat.zero_le _, rfl, h0, HW.out⟩
  case round =>
    obtain ⟨k, hk1, rfl, hJs, hE⟩ := hrel
    by_cases hlt : k < xs.length
    · have hIx := HI.out.ext hE.ext
      obtain ⟨b, o, cap', hA, hbl, hc0, hc1⟩ := hIx.at_ k hlt
      injection hA with hA1 hA2 hA3
      subst hA1
      subst hA3
      have hB := hIx.each _ (It.mem hlt)
      have hbl1 := hb _ (It.mem hlt)
      have hnx := dls_next key xs k hlt
      generalize xs.getD k default = x at *
      obtain ⟨A3, cap3, e3, _⟩ := hB.is
      rw [e3] at hc1 hB
      have HB := Lib.hid hB
      have HNX := Lib.hid hnx
      have HE := Lib.hid hE
      have hkc := hE.kc
      have hkl : wall.heap.size + 2 < wr.heap.size := (Array.getElem?_eq_some_iff.1 hE.kb).1
      obtain ⟨ds, hds⟩ : ∃ ds, (dls key xs).take k = ds := ⟨_, rfl⟩
      have hdl : ds.length < xs.length := by rw [← hds, List.length_take, dls_length]; omega
      rw [hds] at hJs HNX
      clear hB hnx hE hIx hds e3 hlc
      have hxa : Ext wr (wr.alloc (.cells #[.int .i64 x.z, .slice A3 x.b.length cap3] 50)) := (Ext.refl wr).alloc _
      gi_wp2
      refine ⟨trivial, fun h => (by cases h), ?_⟩
      refine (callsIn_wide.2 (of_any _ _ key x.b x.z _ (Rd.ext HK.out (HE.out.ext.trans hxa)) (Rd.ext HB.out hxa) hk hbl1)).mono ?_
      rintro e w3 ⟨rfl, hx3⟩
      have HE3 := Lib.hid (HE.out.grow (hxa.trans hx3))
      have HJ3 := Lib.hid (hJ _ _ _ none hJs (grown_of_ext (hxa.trans hx3)) (fun r e => by cases e))
      clear hx3
      obtain ⟨fn, tmps, assign, body, hy, hR⟩ := hY ds ⟨ofD key x.z x.b, ofD_length _ _ _⟩ w3 HJ3.out hdl
      dsimp only at hy
      gi_wp2
      refine ⟨fun h => (by cases h), ?_⟩
      refine hR.mono ?_
      rintro e W3 (⟨rfl, hJ4, hk4⟩ | ⟨rfl, hJx4⟩)
      · rw [← HNX.out] at hJ4
        have hE4 := HE3.out.kept hk4
        clear hy hR hk4
        gi_wp2
        go_roundw
        case rel => exact ⟨k + 1, by omega, by go_num, hJ4, hE4⟩
        case measure => simp [intOf]; omega
      · clear hy hR
        gi_wp2
        refine bodyPost_ret (results_none rfl _ _ _) rfl ?_
        exact ⟨⟨_, rfl⟩, .inr ⟨_, trivial, hJx4⟩⟩
    · obtain rfl : k = xs.length := by omega
      gi_wp2
      go_end0
      exact ⟨⟨_, rfl⟩, .inl ⟨_, rfl, by rw [← dls_length key xs, List.take_length] at hJs; exact hJs⟩⟩
theorem each_stops (n : Nat) (wall : World) (kv lv : Value) (key : List UInt8) (xs : List It) (hK : Bs wall kv key) (hI : Its wall lv xs) (hk : key.length ≤ 2147483648) (hb : ∀ x ∈ xs, x.b.length ≤ 1073741000)
    (w : World) (hW : EachW wall kv lv w) :
    SeqStopsK Fence.wide n Try.prog 120 #[.pointer (some ⟨wall.heap.size + 3, 0, none⟩), .pointer (some ⟨wall.heap.size + 2, 0, none⟩)] (fun x : DL => #[Dig x.1]) (KpE wall.heap.size) (fun ys => ys = dls key xs) (fun _ => True) xs.length w :=
  fun l J Jx W hWW hJ _ hY h0 => each1_in n l wall kv lv key xs hK hI hk hb J Jx W.heap.size hJ hY W (hW.grow hWW) h0
end Go.Proofs.Ytapojpjmeadabaa

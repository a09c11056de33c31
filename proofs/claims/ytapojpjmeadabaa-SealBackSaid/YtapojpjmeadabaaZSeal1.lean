/- Seal1, Seal2, Seal3, Seal4: several texts in one. -/
import Derived.Test.YtapojpjmeadabaaZKnown5
section
/- Small functions of the seals: Parts, wide, Slot; those of the reference. -/
namespace Go.Proofs.Ytapojpjmeadabaa
open Go.RowKit
set_option linter.unusedVariables false
set_option linter.unusedSimpArgs false
attribute [local go_sem] lt_ext cell?_ext frozen?_ext shape?_ext
attribute [local go_sem] u8_xor u8_or i8_mod u8_wrap

set_option maxRecDepth 100000 in
set_option maxHeartbeats 1000000 in
theorem parts_nat (N p : Nat) (h : N ≤ 1000000) (hp : p = (N + 15) / 16) (w : World) : Calls Try.prog 65 #[.int .i64 (N : Int)] w fun e w' => e = .returned (.int .i64 (p : Int)) ∧ w = w' := by
  have hm : max (N : Int) 0 = (N : Int) := by omega
  have h0 : ¬ ((N : Int) < 0) := by omega
  have e : ((N : Int) + 16 - 1) / 16 = (p : Int) := by omega
  have HE := Lib.hid e
  clear e hp
  go_enter Try.func65, Try.ntmps65
  go_wp2
  rw [HE.out]
  go_ret
  exact ⟨rfl, rfl⟩
set_option maxRecDepth 100000 in
set_option maxHeartbeats 1000000 in
theorem parts_neg (b : Int) (h : b ≤ 0) (w : World) : Calls Try.prog 65 #[.int .i64 b] w fun e w' => e = .returned (.int .i64 0) ∧ w = w' := by
  rcases (show b = 0 ∨ b < 0 by omega) with rfl | hlt
  · exact parts_nat 0 0 (by omega) rfl w
  · have hm : max b 0 = 0 := by omega
    go_enter Try.func65, Try.ntmps65
    go_wp2
    go_ret
    exact ⟨rfl, rfl⟩
set_option maxRecDepth 100000 in
set_option maxHeartbeats 1000000 in
theorem wide_nat (N p : Nat) (h : N ≤ 1000000) (hp : p = (N + 7) / 8) (w : World) : Calls Try.prog 104 #[.int .i64 (N : Int)] w fun e w' => e = .returned (.int .i64 (p : Int)) ∧ w = w' := by
  have hm : max (N : Int) 0 = (N : Int) := by omega
  have h0 : ¬ ((N : Int) < 0) := by omega
  have e : ((N : Int) + 7) / 8 = (p : Int) := by omega
  have HE := Lib.hid e
  clear e hp
  go_enter Try.func104, Try.ntmps104
  go_wp2
  rw [HE.out]
  go_ret
  exact ⟨rfl, rfl⟩
set_option maxRecDepth 100000 in
set_option maxHeartbeats 1000000 in
theorem rparts_nat (N p : Nat) (h : N ≤ 1000000) (hp : p = (N + 15) / 16) (w : World) : Calls Try.prog 73 #[.int .i64 (N : Int)] w fun e w' => e = .returned (.int .i64 (p : Int)) ∧ w = w' := by
  go_enter Try.func73, Try.ntmps73
  go_wp2
  go_loop [3] (fun i => ∃ k : Nat, k ≤ p ∧ i = .int .i64 k) (fun i => p - (intOf i).toNat)
  case atStart => exact ⟨0, by omega, rfl⟩
  case round =>
    obtain ⟨k, hk, rfl⟩ := hrel
    by_cases hlt : 16 * k < N
    · have hlt' : 16 * (k : Int) < (N : Int) := by omega
      go_wp2
      go_round
      case rel => exact ⟨k + 1, by omega, by go_num⟩
      case measure => (simp [intOf] <;> omega)
    · have hlt' : ¬ 16 * (k : Int) < (N : Int) := by omega
      obtain rfl : k = p := by omega
      go_wp2
      go_ret
      exact ⟨rfl, rfl⟩
set_option maxRecDepth 100000 in
set_option maxHeartbeats 1000000 in
theorem rparts_neg (b : Int) (h : b ≤ 0) (w : World) : Calls Try.prog 73 #[.int .i64 b] w fun e w' => e = .returned (.int .i64 0) ∧ w = w' := by
  have h0 : ¬ (0 < b) := by omega
  go_enter Try.func73, Try.ntmps73
  go_wp2
  go_loop [3] (fun i => i = .int .i64 0) (fun i => 0)
  case atStart => exact rfl
  case round =>
    obtain rfl := hrel
    go_wp2
    go_ret
    exact ⟨rfl, rfl⟩
theorem and_one_fin : ∀ n : Fin 256, bits .and .u8 ((n.1 : Nat) : Int) 1 = ((n.1 % 2 : Nat) : Int) := by decide +kernel
theorem and_one (x : UInt8) (r : Nat) : wrap64 (bits .and .u8 (i8 x / 2 ^ r) 1) = ((x.toNat / 2 ^ r % 2 : Nat) : Int) := by
  have e : i8 x / 2 ^ r = ((x.toNat / 2 ^ r : Nat) : Int) := by unfold i8; simp
  have hlt : x.toNat / 2 ^ r < 256 := Nat.lt_of_le_of_lt (Nat.div_le_self _ _) x.toNat_lt
  have h := and_one_fin ⟨x.toNat / 2 ^ r, hlt⟩
  rw [e]
  rw [h]
  exact w64_in _ (by omega)
/-- A bit. -/
def slotN (sl : List UInt8) (k : Nat) : Nat := (sl.getD (k / 8) 0).toNat / 2 ^ (k % 8) % 2
set_option maxRecDepth 100000 in
set_option maxHeartbeats 1000000 in
theorem slot_in (nv bv sv gv : Value) (sl : List UInt8) (k : Nat) (hk : k / 8 < sl.length) (hk0 : k ≤ 9223372036854775807) (hn : ∃ n, nv = .int .u64 n) (hb : ∃ n, bv = .int .i64 n) (hg : ∃ a n c, gv = .slice a n c) (w : World) (hS : Bs w sv sl) :
    Calls Try.prog 75 #[.agg #[nv, bv, sv, gv], .int .i64 (k : Int)] w fun e w' => e = .returned (.int .i64 (slotN sl k : Int)) ∧ Ext w w' := by
  obtain ⟨n1, rfl⟩ := hn
  obtain ⟨n2, rfl⟩ := hb
  obtain ⟨a3, n3, c3, rfl⟩ := hg
  obtain ⟨b, o, cap, rfl, _, _, hbl, hcell⟩ := hS.pos (by omega)
  have hc := hcell (k / 8) hk
  obtain ⟨j, hj⟩ : ∃ j, k / 8 = j := ⟨_, rfl⟩
  obtain ⟨r, hr⟩ : ∃ r, k % 8 = r := ⟨_, rfl⟩
  have hr8 : r < 8 := by omega
  have hkj : (k : Int) / 8 = (j : Int) := by omega
  have hkr : (k : Int) % 8 = (r : Int) := by omega
  rw [hj] at hc hk
  have HSD : Hid (slotN sl k = (sl.getD j 0).toNat / 2 ^ r % 2) := Lib.hid (by unfold slotN; rw [hj, hr])
  obtain ⟨s, hs⟩ : ∃ s, slotN sl k = s := ⟨_, rfl⟩
  rw [hs] at HSD ⊢
  generalize sl.getD j 0 = x at *
  have hx : Ext w (w.alloc (.cells #[.int .u64 n1, .int .i64 n2, .slice (some ⟨b, o, none⟩) sl.length cap, .slice a3 n3 c3] 68)) := (Ext.refl w).alloc _
  have HX := Lib.hid hx
  have hc1 := (hx.cell b (o + j) hbl).trans hc
  clear hcell hj hr hs hx
  go_enter Try.func75, Try.ntmps75
  go_wp2
  rw [and_one, ← HSD.out]
  go_ret
  exact ⟨rfl, HX.out⟩
set_option maxRecDepth 100000 in
set_option maxHeartbeats 1000000 in
theorem slot_out (nv bv sv gv : Value) (sl : List UInt8) (z : Int) (hz : z < 0 ∨ (sl.length : Int) ≤ z / 8) (hz0 : -9223372036854775808 ≤ z) (hz1 : z ≤ 9223372036854775807) (hn : ∃ n, nv = .int .u64 n) (hb : ∃ n, bv = .int .i64 n) (hg : ∃ a n c, gv = .slice a n c) (w : World) (hS : Bs w sv sl) :
    Calls Try.prog 75 #[.agg #[nv, bv, sv, gv], .int .i64 z] w fun e w' => e = .returned (.int .i64 0) ∧ Ext w w' := by
  obtain ⟨n1, rfl⟩ := hn
  obtain ⟨n2, rfl⟩ := hb
  obtain ⟨a3, n3, c3, rfl⟩ := hg
  obtain ⟨A, cap, rfl, _, _, _, _⟩ := hS.is
  have HX : Hid (Ext w (w.alloc (.cells #[.int .u64 n1, .int .i64 n2, .slice A sl.length cap, .slice a3 n3 c3] 68))) := Lib.hid ((Ext.refl w).alloc _)
  by_cases hneg : z < 0
  · clear hz
    go_enter Try.func75, Try.ntmps75
    go_wp2
    go_ret
    exact ⟨rfl, HX.out⟩
  · have hle : (sl.length : Int) ≤ z / 8 := by omega
    clear hz
    go_enter Try.func75, Try.ntmps75
    go_wp2
    go_ret
    exact ⟨rfl, HX.out⟩
end Go.Proofs.Ytapojpjmeadabaa
end

section
/- A seal as a value; sacristanref08.Slot, Long. -/
namespace Go.Proofs.Ytapojpjmeadabaa
open Go.RowKit
set_option linter.unusedVariables false
set_option linter.unusedSimpArgs false
attribute [local go_sem] lt_ext cell?_ext frozen?_ext shape?_ext
attribute [local go_sem] u8_xor u8_or i8_mod u8_wrap

/-- What a seal says, and where its slices lie. -/
structure Se where
  num : Nat
  blk : Int
  sl : List UInt8
  su : List (List UInt8)
  sv : Value
  gv : Value
def dgc (ds : List (List UInt8)) : List Value := ds.flatten.map B8
/-- A slice of digests, as it reads. -/
structure Dgs (w : World) (v : Value) (ds : List (List UInt8)) : Prop where
  rd : Rd w 32 v ds.length (dgc ds)
  all : ∀ d ∈ ds, d.length = 32
theorem Dgs.ext {w w' : World} {v : Value} {ds : List (List UInt8)} (h : Dgs w v ds) (hx : Ext w w') : Dgs w' v ds := ⟨h.rd.ext hx, h.all⟩
abbrev Se.v (x : Se) : Value := .agg #[.int .u64 (x.num : Int), .int .i64 x.blk, x.sv, x.gv]
structure SeR (w : World) (x : Se) : Prop where
  sl : Bs w x.sv x.sl
  su : Dgs w x.gv x.su
  num : x.num ≤ 18446744073709551615
  lo : -9223372036854775808 ≤ x.blk
  hi : x.blk ≤ 9223372036854775807
theorem SeR.ext {w w' : World} {x : Se} (h : SeR w x) (hx : Ext w w') : SeR w' x := ⟨Rd.ext h.sl hx, h.su.ext hx, h.num, h.lo, h.hi⟩
theorem flat32 (ds : List (List UInt8)) (h : ∀ d ∈ ds, d.length = 32) : ds.flatten.length = ds.length * 32 := by
  induction ds with
  | nil => rfl
  | cons d r ih =>
    have h1 := h d (by simp)
    have h2 := ih (fun e he => h e (by simp [he]))
    simp only [List.flatten_cons, List.length_append, List.length_cons, h1, h2]
    omega
theorem flat32_get (ds : List (List UInt8)) (h : ∀ d ∈ ds, d.length = 32) : ∀ (k j : Nat), k < ds.length → j < 32 → ds.flatten[k * 32 + j]? = (ds.getD k [])[j]? := by
  induction ds with
  | nil => intro k j hk; exact absurd hk (Nat.not_lt_zero _)
  | cons d r ih =>
    intro k j hk hj
    have h1 := h d (by simp)
    cases k with
    | zero =>
      simp only [List.flatten_cons, Nat.zero_mul, Nat.zero_add]
      rw [List.getElem?_append_left (by omega)]
      rfl
    | succ k =>
      have h2 := ih (fun e he => h e (by simp [he])) k j (by simpa using hk) hj
      simp only [List.flatten_cons]
      rw [List.getElem?_append_right (by omega), h1, show (k + 1) * 32 + j - 32 = k * 32 + j by omega, h2]
      rfl
/-- A load of a digest that lies anywhere. -/
theorem exec_load27_at {o : Oper} {ρ : Operand → Value} (p : Operand) (ho : o.op = .load 27 p) (b off : Nat) (hp : ρ p = .pointer (some ⟨b, off, none⟩)) (l : List UInt8) (hl : l.length = 32) (w : World) (hc : ∀ j u, l[j]? = some u → w.cell? ⟨b, off + j, none⟩ = some (B8 u)) :
    (execOp ρ o).run Try.prog w = .ok (.value (Dig l)) w := by
  have hlc : (loadCells ⟨b, off, none⟩ (l.map B8).length).run Try.prog w = .ok (l.map B8).toArray w :=
    run_loadCells_list (P := Try.prog) w ⟨b, off, none⟩ (l.map B8) (fun j v hv => by
      have hadd : (⟨b, off, none⟩ : Addr).add j = ⟨b, off + j, none⟩ := by unfold Addr.add; split <;> simp_all
      rw [List.getElem?_map] at hv
      obtain ⟨u, hu, rfl⟩ := Option.map_eq_some_iff.1 hv
      rw [hadd]
      exact hc j u hu)
  rw [List.length_map] at hlc
  have hlv : (loadVar 27 ⟨b, off, none⟩).run Try.prog w = .ok (Dig l) w := by
    have hi := size27 l hl
    cases hq : Try.prog.info? 27 with
    | none => simp [hq] at hi
    | some i =>
      have hs : i.size = l.length := by simpa [hq, row8] using hi
      have hagg : (isAgg 27).run Try.prog w = .ok true w := by
        unfold isAgg
        rw [Sem.run_bind, run_underlying Try.underlying27 w]
        rfl
      simp [loadVar, Sem.run_bind, hagg, sizeOf, typeInfo, hq, hs, hlc, row8]
  unfold execOp
  simp only [ho, hp, Instr.loadAt, Instr.sureAddr, Sem.run_bind, Sem.run_pure, Result.andThen_ok, hlv]
theorem Dgs.at_ {w : World} {v : Value} {ds : List (List UInt8)} (h : Dgs w v ds) (k : Nat) (hk : k < ds.length) :
    ∃ b o cap, v = .slice (some ⟨b, o, none⟩) ds.length cap ∧ b < w.heap.size ∧ (ds.getD k []).length = 32 ∧ ∀ j u, (ds.getD k [])[j]? = some u → w.cell? ⟨b, o + k * 32 + j, none⟩ = some (B8 u) := by
  obtain ⟨b, o, cap, h1, _, _, h4, h5⟩ := h.rd.pos (by omega)
  have hm : ds.getD k [] ∈ ds := by rw [List.getD_eq_getElem?_getD, List.getElem?_eq_getElem hk]; exact List.getElem_mem hk
  have hl := h.all _ hm
  refine ⟨b, o, cap, h1, h4, hl, fun j u hj => ?_⟩
  have hj32 : j < 32 := by have := (List.getElem?_eq_some_iff.1 hj).1; omega
  rw [Nat.add_assoc]
  refine h5 _ _ ?_
  unfold dgc
  rw [List.getElem?_map, flat32_get ds h.all k j hk hj32, hj]
  rfl
set_option maxRecDepth 100000 in
set_option maxHeartbeats 1000000 in
theorem slong_any (x : Se) (w : World) (hR : SeR w x) (hs1 : x.sl.length ≤ 4611686018427387904) (hs2 : x.su.length ≤ 72057594037927936) :
    Calls Try.prog 61 #[x.v] w fun e w' => e = .returned (.int .i64 ((x.sl.length + 32 * x.su.length : Nat) : Int)) ∧ Ext w w' := by
  obtain ⟨num, blk, sl, su, sv, gv⟩ := x
  obtain ⟨A, cap, h1, _, _, _, _⟩ := hR.sl.is
  obtain ⟨A2, cap2, h2, _, _, _, _⟩ := hR.su.rd.is
  simp only at h1 h2 hs1 hs2
  subst h1; subst h2
  have HX : Hid (Ext w (w.alloc (.cells #[.int .u64 (num : Int), .int .i64 blk, .slice A sl.length cap, .slice A2 su.length cap2] 68))) := Lib.hid ((Ext.refl w).alloc _)
  have e : (sl.length : Int) + 32 * (su.length : Int) = ((sl.length + 32 * su.length : Nat) : Int) := by omega
  have HE := Lib.hid e
  clear e hR
  show Calls Try.prog 61 #[.agg #[.int .u64 (num : Int), .int .i64 blk, .slice A sl.length cap, .slice A2 su.length cap2]] w _
  go_enter Try.func61, Try.ntmps61
  go_wp2
  rw [HE.out]
  go_ret
  exact ⟨rfl, HX.out⟩
set_option maxRecDepth 100000 in
set_option maxHeartbeats 1000000 in
theorem rslot_in (nv bv sv gv : Value) (sl : List UInt8) (k : Nat) (hk : k / 8 < sl.length) (hk0 : k ≤ 9223372036854775807) (hn : ∃ n, nv = .int .u64 n) (hb : ∃ n, bv = .int .i64 n) (hg : ∃ a n c, gv = .slice a n c) (w : World) (hS : Bs w sv sl) :
    Calls Try.prog 76 #[.agg #[nv, bv, sv, gv], .int .i64 (k : Int)] w fun e w' => e = .returned (.int .i64 (slotN sl k : Int)) ∧ Ext w w' := by
  obtain ⟨n1, rfl⟩ := hn
  obtain ⟨n2, rfl⟩ := hb
  obtain ⟨a3, n3, c3, rfl⟩ := hg
  obtain ⟨b, o, cap, rfl, _, _, hbl, hcell⟩ := hS.pos (by omega)
  have hc := hcell (k / 8) hk
  obtain ⟨j, hj⟩ : ∃ j, k / 8 = j := ⟨_, rfl⟩
  obtain ⟨r, hr⟩ : ∃ r, k % 8 = r := ⟨_, rfl⟩
  have hr8 : r < 8 := by omega
  have hkj : (k : Int) / 8 = (j : Int) := by omega
  have hkr : (k : Int) % 8 = (r : Int) := by omega
  rw [hj] at hc hk
  have HSD : Hid (slotN sl k = (sl.getD j 0).toNat / 2 ^ r % 2) := Lib.hid (by unfold slotN; rw [hj, hr])
  obtain ⟨s, hs⟩ : ∃ s, slotN sl k = s := ⟨_, rfl⟩
  rw [hs] at HSD ⊢
  generalize sl.getD j 0 = x at *
  have hx : Ext w (w.alloc (.cells #[.int .u64 n1, .int .i64 n2, .slice (some ⟨b, o, none⟩) sl.length cap, .slice a3 n3 c3] 68)) := (Ext.refl w).alloc _
  have HX := Lib.hid hx
  have hc1 := (hx.cell b (o + j) hbl).trans hc
  have hx8 := x.toNat_lt
  have hw8 : wrap64 (i8 x) = (x.toNat : Int) := w64_in _ (by unfold i8; omega)
  clear hcell hj hr hs hx
  go_enter Try.func76, Try.ntmps76
  go_wp2
  rw [hw8]
  generalize w.alloc (.cells #[.int .u64 n1, .int .i64 n2, .slice (some ⟨b, o, none⟩) sl.length cap, .slice a3 n3 c3] 68) = w0 at *
  clear hc hc1
  go_loop [6, 5] (fun i n => ∃ m y : Nat, m ≤ r ∧ i = .int .i64 m ∧ n = .int .i64 y ∧ y = x.toNat / 2 ^ m ∧ y < 256) (fun i _ => r - (intOf i).toNat)
  case atStart => exact ⟨0, x.toNat, by omega, rfl, rfl, by simp, hx8⟩
  case round =>
    obtain ⟨m, y, hm, rfl, rfl, hy, hy8⟩ := hrel
    have HY := Lib.hid hy
    clear hy
    by_cases hlt : m < r
    · go_wp2
      go_round
      case rel => exact ⟨m + 1, y / 2, by omega, by go_num, by go_num, by rw [HY.out, Nat.pow_succ, Nat.div_div_eq_div_mul], by omega⟩
      case measure => (simp [intOf] <;> omega)
    · obtain rfl : m = r := by omega
      have hs2 : (s : Int) = (y : Int) % 2 := by rw [HSD.out, HY.out]; omega
      have HS2 := Lib.hid hs2
      clear hs2
      go_wp2
      rw [← HS2.out]
      go_ret
      exact ⟨rfl, HX.out⟩
set_option maxRecDepth 100000 in
set_option maxHeartbeats 1000000 in
theorem rslot_out (nv bv sv gv : Value) (sl : List UInt8) (z : Int) (hz : z < 0 ∨ (sl.length : Int) ≤ z / 8) (hz0 : -9223372036854775808 ≤ z) (hz1 : z ≤ 9223372036854775807) (hn : ∃ n, nv = .int .u64 n) (hb : ∃ n, bv = .int .i64 n) (hg : ∃ a n c, gv = .slice a n c) (w : World) (hS : Bs w sv sl) :
    Calls Try.prog 76 #[.agg #[nv, bv, sv, gv], .int .i64 z] w fun e w' => e = .returned (.int .i64 0) ∧ Ext w w' := by
  obtain ⟨n1, rfl⟩ := hn
  obtain ⟨n2, rfl⟩ := hb
  obtain ⟨a3, n3, c3, rfl⟩ := hg
  obtain ⟨A, cap, rfl, _, _, _, _⟩ := hS.is
  have HX : Hid (Ext w (w.alloc (.cells #[.int .u64 n1, .int .i64 n2, .slice A sl.length cap, .slice a3 n3 c3] 68))) := Lib.hid ((Ext.refl w).alloc _)
  by_cases hneg : z < 0
  · clear hz
    go_enter Try.func76, Try.ntmps76
    go_wp2
    go_ret
    exact ⟨rfl, HX.out⟩
  · have hle : (sl.length : Int) ≤ z / 8 := by omega
    clear hz
    go_enter Try.func76, Try.ntmps76
    go_wp2
    go_ret
    exact ⟨rfl, HX.out⟩
end Go.Proofs.Ytapojpjmeadabaa
end

section
/- seal.Right. -/
namespace Go.Proofs.Ytapojpjmeadabaa
open Go.RowKit
set_option linter.unusedVariables false
set_option linter.unusedSimpArgs false
attribute [local go_sem] lt_ext cell?_ext frozen?_ext shape?_ext
attribute [local go_sem] u8_xor u8_or i8_mod u8_wrap

/-- May it be? -/
def rightN (N : Nat) (sl : List UInt8) (su : List (List UInt8)) : Bool :=
  decide (sl.length = (N + 7) / 8) && decide (su.length = (N + 15) / 16) && (decide (N % 8 = 0) || decide ((sl.getD (sl.length - 1) 0).toNat / 2 ^ (N % 8) = 0))
def rightB (blk : Int) (sl : List UInt8) (su : List (List UInt8)) : Bool := decide (0 ≤ blk) && decide (blk ≤ 4096) && rightN blk.toNat sl su
set_option maxRecDepth 100000 in
set_option maxHeartbeats 1000000 in
theorem right_neg (x : Se) (w : World) (hR : SeR w x) (hb : x.blk < 0) :
    Calls Try.prog 67 #[x.v] w fun e w' => e = .returned (.bool false) ∧ Ext w w' := by
  obtain ⟨num, blk, sl, su, sv, gv⟩ := x
  obtain ⟨A, cap, h1, _, _, _, hpos⟩ := hR.sl.is
  obtain ⟨A2, cap2, h2, _, _, _, _⟩ := hR.su.rd.is
  simp only at h1 h2 hb
  subst h1; subst h2
  have HX : Hid (Ext w (w.alloc (.cells #[.int .u64 (num : Int), .int .i64 blk, .slice A sl.length cap, .slice A2 su.length cap2] 68))) := Lib.hid ((Ext.refl w).alloc _)
  have hc0 := heap_alloc_last w (.cells #[.int .u64 (num : Int), .int .i64 blk, .slice A sl.length cap, .slice A2 su.length cap2] 68)
  have hd1 : decide (blk < 0) = true := decide_eq_true hb
  have hd2 := hd1
  have hd3 := hd1
  have hd4 := hd1
  show Calls Try.prog 67 #[.agg #[.int .u64 (num : Int), .int .i64 blk, .slice A sl.length cap, .slice A2 su.length cap2]] w _
  go_enter Try.func67, Try.ntmps67
  go_wp2
  refine wp_region_m (by kernel_rfl) (by kernel_rfl) ?_; try simp only [Act.put, List.setIfInBounds_toArray, List.set_cons_succ, List.set_cons_zero]
  repeat (first | (refine gq rfl rfl rfl rfl (fun K hK => ?_); go_big_quiet_op; refine hK _ ?_; clear hK K; try simp only [hd1, hd2, hd3, hd4]) | (refine gskip rfl rfl rfl rfl ?_; simp only [Act.put, List.setIfInBounds_toArray, List.set_cons_succ, List.set_cons_zero]))
  refine gm_end_at rfl [] rfl (fun xs y hk => ?_)
  clear hk
  simp only [fillM, Act.put, List.setIfInBounds_toArray, List.set_cons_succ, List.set_cons_zero]
  have HY := Lib.hid (HX.out.trans (ext_ext _ y))
  go_wp2
  go_ret
  exact ⟨rfl, HY.out⟩
set_option maxRecDepth 100000 in
set_option maxHeartbeats 1000000 in
theorem right_big (x : Se) (w : World) (hR : SeR w x) (hb : 4096 < x.blk) :
    Calls Try.prog 67 #[x.v] w fun e w' => e = .returned (.bool false) ∧ Ext w w' := by
  obtain ⟨num, blk, sl, su, sv, gv⟩ := x
  obtain ⟨A, cap, h1, _, _, _, hpos⟩ := hR.sl.is
  obtain ⟨A2, cap2, h2, _, _, _, _⟩ := hR.su.rd.is
  simp only at h1 h2 hb
  subst h1; subst h2
  have HX : Hid (Ext w (w.alloc (.cells #[.int .u64 (num : Int), .int .i64 blk, .slice A sl.length cap, .slice A2 su.length cap2] 68))) := Lib.hid ((Ext.refl w).alloc _)
  have hc0 := heap_alloc_last w (.cells #[.int .u64 (num : Int), .int .i64 blk, .slice A sl.length cap, .slice A2 su.length cap2] 68)
  have hd1 : decide (4096 < blk) = true := decide_eq_true hb
  have hd2 : decide (blk < 0) = false := decide_eq_false (by omega)
  have hd3 := hd1
  have hd4 := hd1
  show Calls Try.prog 67 #[.agg #[.int .u64 (num : Int), .int .i64 blk, .slice A sl.length cap, .slice A2 su.length cap2]] w _
  go_enter Try.func67, Try.ntmps67
  go_wp2
  refine wp_region_m (by kernel_rfl) (by kernel_rfl) ?_; try simp only [Act.put, List.setIfInBounds_toArray, List.set_cons_succ, List.set_cons_zero]
  repeat (first | (refine gq rfl rfl rfl rfl (fun K hK => ?_); go_big_quiet_op; refine hK _ ?_; clear hK K; try simp only [hd1, hd2, hd3, hd4]) | (refine gskip rfl rfl rfl rfl ?_; simp only [Act.put, List.setIfInBounds_toArray, List.set_cons_succ, List.set_cons_zero]))
  refine gm_end_at rfl [] rfl (fun xs y hk => ?_)
  clear hk
  simp only [fillM, Act.put, List.setIfInBounds_toArray, List.set_cons_succ, List.set_cons_zero]
  have HY := Lib.hid (HX.out.trans (ext_ext _ y))
  go_wp2
  go_ret
  exact ⟨rfl, HY.out⟩
set_option maxRecDepth 100000 in
set_option maxHeartbeats 1000000 in
theorem right_c1 (num N : Nat) (sl : List UInt8) (su : List (List UInt8)) (sv gv : Value) (w : World) (hN : N ≤ 4096) (hS : Bs w sv sl) (hG : Dgs w gv su) (h8 : sl.length ≠ (N + 7) / 8) :
    Calls Try.prog 67 #[.agg #[.int .u64 (num : Int), .int .i64 (N : Int), sv, gv]] w fun e w' => e = .returned (.bool false) ∧ Ext w w' := by
  obtain ⟨A, cap, rfl, _, _, _, hpos⟩ := hS.is
  obtain ⟨A2, cap2, rfl, _, _, _, _⟩ := hG.rd.is
  have HX : Hid (Ext w (w.alloc (.cells #[.int .u64 (num : Int), .int .i64 (N : Int), .slice A sl.length cap, .slice A2 su.length cap2] 68))) := Lib.hid ((Ext.refl w).alloc _)
  have hd1 : decide ((N : Int) < 0) = false := decide_eq_false (by omega)
  have hd2 : decide (4096 < (N : Int)) = false := decide_eq_false (by omega)
  obtain ⟨p8, hp8⟩ : ∃ p, p = (N + 7) / 8 := ⟨_, rfl⟩
  obtain ⟨p16, hp16⟩ : ∃ p, p = (N + 15) / 16 := ⟨_, rfl⟩
  rw [← hp8] at h8
  have HP8 := Lib.hid hp8
  have HP16 := Lib.hid hp16
  have hd3 : ((sl.length : Int) != (p8 : Int)) = true := by simp; omega
  have hd4 := hd3
  have H8 := Lib.hid h8
  clear h8 hp8 hp16
  go_enter Try.func67, Try.ntmps67
  go_wp2
  refine wp_region_m (by kernel_rfl) (by kernel_rfl) ?_; try simp only [Act.put, List.setIfInBounds_toArray, List.set_cons_succ, List.set_cons_zero]
  repeat (first | (refine gq rfl rfl rfl rfl (fun K hK => ?_); go_big_quiet_op; refine hK _ ?_; clear hK K; try simp only [hd1, hd2, hd3, hd4]) | (refine gskip rfl rfl rfl rfl ?_; simp only [Act.put, List.setIfInBounds_toArray, List.set_cons_succ, List.set_cons_zero]))
  refine gc rfl rfl rfl rfl 104 #[.int .i64 (N : Int)] (fun _ => by go_simp) (.int .i64 (p8 : Int)) (fun y => (wide_nat N p8 (by omega) HP8.out _).mono (fun e w' h => ⟨h.1, h.2 ▸ Ext.refl _⟩)) ?_
  simp only [Act.put, List.setIfInBounds_toArray, List.set_cons_succ, List.set_cons_zero]
  repeat (first | (refine gq rfl rfl rfl rfl (fun K hK => ?_); go_big_quiet_op; refine hK _ ?_; clear hK K; try simp only [hd1, hd2, hd3, hd4]) | (refine gskip rfl rfl rfl rfl ?_; simp only [Act.put, List.setIfInBounds_toArray, List.set_cons_succ, List.set_cons_zero]))
  refine gm_end_at rfl [] rfl (fun xs y hk => ?_)
  clear hk
  simp only [fillM, Act.put, List.setIfInBounds_toArray, List.set_cons_succ, List.set_cons_zero]
  have HY := Lib.hid (HX.out.trans (ext_ext _ y))
  go_wp2
  go_ret
  exact ⟨rfl, HY.out⟩
set_option maxRecDepth 100000 in
set_option maxHeartbeats 1000000 in
theorem right_c2 (num N : Nat) (sl : List UInt8) (su : List (List UInt8)) (sv gv : Value) (w : World) (hN : N ≤ 4096) (hS : Bs w sv sl) (hG : Dgs w gv su) (h8 : sl.length = (N + 7) / 8) (h16 : su.length ≠ (N + 15) / 16) :
    Calls Try.prog 67 #[.agg #[.int .u64 (num : Int), .int .i64 (N : Int), sv, gv]] w fun e w' => e = .returned (.bool false) ∧ Ext w w' := by
  obtain ⟨A, cap, rfl, _, _, _, hpos⟩ := hS.is
  obtain ⟨A2, cap2, rfl, _, _, _, _⟩ := hG.rd.is
  have HX : Hid (Ext w (w.alloc (.cells #[.int .u64 (num : Int), .int .i64 (N : Int), .slice A sl.length cap, .slice A2 su.length cap2] 68))) := Lib.hid ((Ext.refl w).alloc _)
  have hd1 : decide ((N : Int) < 0) = false := decide_eq_false (by omega)
  have hd2 : decide (4096 < (N : Int)) = false := decide_eq_false (by omega)
  obtain ⟨p8, hp8⟩ : ∃ p, p = (N + 7) / 8 := ⟨_, rfl⟩
  obtain ⟨p16, hp16⟩ : ∃ p, p = (N + 15) / 16 := ⟨_, rfl⟩
  rw [← hp8] at h8
  have HP8 := Lib.hid hp8
  have HP16 := Lib.hid hp16
  rw [← hp16] at h16
  have hd3 : ((sl.length : Int) != (p8 : Int)) = false := by simp; omega
  have hd4 : ((su.length : Int) != (p16 : Int)) = true := by simp; omega
  have H8 := Lib.hid h8
  have H16 := Lib.hid h16
  clear h8 h16 hp8 hp16
  go_enter Try.func67, Try.ntmps67
  go_wp2
  refine wp_region_m (by kernel_rfl) (by kernel_rfl) ?_; try simp only [Act.put, List.setIfInBounds_toArray, List.set_cons_succ, List.set_cons_zero]
  repeat (first | (refine gq rfl rfl rfl rfl (fun K hK => ?_); go_big_quiet_op; refine hK _ ?_; clear hK K; try simp only [hd1, hd2, hd3, hd4]) | (refine gskip rfl rfl rfl rfl ?_; simp only [Act.put, List.setIfInBounds_toArray, List.set_cons_succ, List.set_cons_zero]))
  refine gc rfl rfl rfl rfl 104 #[.int .i64 (N : Int)] (fun _ => by go_simp) (.int .i64 (p8 : Int)) (fun y => (wide_nat N p8 (by omega) HP8.out _).mono (fun e w' h => ⟨h.1, h.2 ▸ Ext.refl _⟩)) ?_
  simp only [Act.put, List.setIfInBounds_toArray, List.set_cons_succ, List.set_cons_zero]
  repeat (first | (refine gq rfl rfl rfl rfl (fun K hK => ?_); go_big_quiet_op; refine hK _ ?_; clear hK K; try simp only [hd1, hd2, hd3, hd4]) | (refine gskip rfl rfl rfl rfl ?_; simp only [Act.put, List.setIfInBounds_toArray, List.set_cons_succ, List.set_cons_zero]))
  refine gc rfl rfl rfl rfl 65 #[.int .i64 (N : Int)] (fun _ => by go_simp) (.int .i64 (p16 : Int)) (fun y => (parts_nat N p16 (by omega) HP16.out _).mono (fun e w' h => ⟨h.1, h.2 ▸ Ext.refl _⟩)) ?_
  simp only [Act.put, List.setIfInBounds_toArray, List.set_cons_succ, List.set_cons_zero]
  repeat (first | (refine gq rfl rfl rfl rfl (fun K hK => ?_); go_big_quiet_op; refine hK _ ?_; clear hK K; try simp only [hd1, hd2, hd3, hd4]) | (refine gskip rfl rfl rfl rfl ?_; simp only [Act.put, List.setIfInBounds_toArray, List.set_cons_succ, List.set_cons_zero]))
  refine gm_end_at rfl [] rfl (fun xs y hk => ?_)
  clear hk
  simp only [fillM, Act.put, List.setIfInBounds_toArray, List.set_cons_succ, List.set_cons_zero]
  have HY := Lib.hid (HX.out.trans (ext_ext _ y))
  go_wp2
  go_ret
  exact ⟨rfl, HY.out⟩
set_option maxRecDepth 100000 in
set_option maxHeartbeats 1000000 in
theorem right_c3 (num N : Nat) (sl : List UInt8) (su : List (List UInt8)) (sv gv : Value) (w : World) (hN : N ≤ 4096) (hS : Bs w sv sl) (hG : Dgs w gv su) (h8 : sl.length = (N + 7) / 8) (h16 : su.length = (N + 15) / 16) (hm : N % 8 = 0) :
    Calls Try.prog 67 #[.agg #[.int .u64 (num : Int), .int .i64 (N : Int), sv, gv]] w fun e w' => e = .returned (.bool true) ∧ Ext w w' := by
  obtain ⟨A, cap, rfl, _, _, _, hpos⟩ := hS.is
  obtain ⟨A2, cap2, rfl, _, _, _, _⟩ := hG.rd.is
  have HX : Hid (Ext w (w.alloc (.cells #[.int .u64 (num : Int), .int .i64 (N : Int), .slice A sl.length cap, .slice A2 su.length cap2] 68))) := Lib.hid ((Ext.refl w).alloc _)
  have hd1 : decide ((N : Int) < 0) = false := decide_eq_false (by omega)
  have hd2 : decide (4096 < (N : Int)) = false := decide_eq_false (by omega)
  obtain ⟨p8, hp8⟩ : ∃ p, p = (N + 7) / 8 := ⟨_, rfl⟩
  obtain ⟨p16, hp16⟩ : ∃ p, p = (N + 15) / 16 := ⟨_, rfl⟩
  rw [← hp8] at h8
  have HP8 := Lib.hid hp8
  have HP16 := Lib.hid hp16
  rw [← hp16] at h16
  have hd3 : ((sl.length : Int) != (p8 : Int)) = false := by simp; omega
  have hd4 : ((su.length : Int) != (p16 : Int)) = false := by simp; omega
  have hd5 : ((N : Int) % 8 == 0) = true := by simp; omega
  have H8 := Lib.hid h8
  have H16 := Lib.hid h16
  have HM := Lib.hid hm
  clear h8 h16 hm hp8 hp16
  go_enter Try.func67, Try.ntmps67
  go_wp2
  refine wp_region_m (by kernel_rfl) (by kernel_rfl) ?_; try simp only [Act.put, List.setIfInBounds_toArray, List.set_cons_succ, List.set_cons_zero]
  repeat (first | (refine gq rfl rfl rfl rfl (fun K hK => ?_); go_big_quiet_op; refine hK _ ?_; clear hK K; try simp only [hd1, hd2, hd3, hd4]) | (refine gskip rfl rfl rfl rfl ?_; simp only [Act.put, List.setIfInBounds_toArray, List.set_cons_succ, List.set_cons_zero]))
  refine gc rfl rfl rfl rfl 104 #[.int .i64 (N : Int)] (fun _ => by go_simp) (.int .i64 (p8 : Int)) (fun y => (wide_nat N p8 (by omega) HP8.out _).mono (fun e w' h => ⟨h.1, h.2 ▸ Ext.refl _⟩)) ?_
  simp only [Act.put, List.setIfInBounds_toArray, List.set_cons_succ, List.set_cons_zero]
  repeat (first | (refine gq rfl rfl rfl rfl (fun K hK => ?_); go_big_quiet_op; refine hK _ ?_; clear hK K; try simp only [hd1, hd2, hd3, hd4]) | (refine gskip rfl rfl rfl rfl ?_; simp only [Act.put, List.setIfInBounds_toArray, List.set_cons_succ, List.set_cons_zero]))
  refine gc rfl rfl rfl rfl 65 #[.int .i64 (N : Int)] (fun _ => by go_simp) (.int .i64 (p16 : Int)) (fun y => (parts_nat N p16 (by omega) HP16.out _).mono (fun e w' h => ⟨h.1, h.2 ▸ Ext.refl _⟩)) ?_
  simp only [Act.put, List.setIfInBounds_toArray, List.set_cons_succ, List.set_cons_zero]
  repeat (first | (refine gq rfl rfl rfl rfl (fun K hK => ?_); go_big_quiet_op; refine hK _ ?_; clear hK K; try simp only [hd1, hd2, hd3, hd4]) | (refine gskip rfl rfl rfl rfl ?_; simp only [Act.put, List.setIfInBounds_toArray, List.set_cons_succ, List.set_cons_zero]))
  refine gm_end_at rfl [] rfl (fun xs y hk => ?_)
  clear hk
  simp only [fillM, Act.put, List.setIfInBounds_toArray, List.set_cons_succ, List.set_cons_zero]
  have HY := Lib.hid (HX.out.trans (ext_ext _ y))
  have hc0 := ((ext_ext _ y).block (k := w.heap.size) (by simp)).trans (heap_alloc_last w (.cells #[.int .u64 (num : Int), .int .i64 (N : Int), .slice A sl.length cap, .slice A2 su.length cap2] 68))
  generalize (w.alloc (.cells #[.int .u64 (num : Int), .int .i64 (N : Int), .slice A sl.length cap, .slice A2 su.length cap2] 68)).ext y = w1 at *
  have hl1 : w.heap.size < w1.heap.size := (Array.getElem?_eq_some_iff.1 hc0).1
  have c1 : w1.cell? ⟨w.heap.size, 1, none⟩ = some (.int .i64 (N : Int)) := by rw [cell_of_row _ _ _ _ _ _ hc0]; rfl
  have c2 : w1.cell? ⟨w.heap.size, 2, none⟩ = some (.slice A sl.length cap) := by rw [cell_of_row _ _ _ _ _ _ hc0]; rfl
  clear hd1 hd2 hd3 hd4
  have hd1 := hd5
  have hd2 := hd5
  have hd3 := hd5
  have hd4 := hd5
  go_wp2
  refine wp_region_m (by kernel_rfl) (by kernel_rfl) ?_; try simp only [Act.put, List.setIfInBounds_toArray, List.set_cons_succ, List.set_cons_zero]
  repeat (first | (refine gq rfl rfl rfl rfl (fun K hK => ?_); go_big_quiet_op; refine hK _ ?_; clear hK K; try simp only [hd1, hd2, hd3, hd4]) | (refine gskip rfl rfl rfl rfl ?_; simp only [Act.put, List.setIfInBounds_toArray, List.set_cons_succ, List.set_cons_zero]))
  refine gm_end_at rfl [] rfl (fun xs z hk => ?_)
  clear hk
  simp only [fillM, Act.put, List.setIfInBounds_toArray, List.set_cons_succ, List.set_cons_zero]
  have HZ := Lib.hid (HY.out.trans (ext_ext w1 z))
  go_wp2
  go_ret
  exact ⟨rfl, HZ.out⟩
set_option maxRecDepth 100000 in
set_option maxHeartbeats 1000000 in
theorem right_c4 (num N : Nat) (sl : List UInt8) (su : List (List UInt8)) (sv gv : Value) (w : World) (hN : N ≤ 4096) (hS : Bs w sv sl) (hG : Dgs w gv su) (h8 : sl.length = (N + 7) / 8) (h16 : su.length = (N + 15) / 16) (hm : N % 8 ≠ 0) :
    Calls Try.prog 67 #[.agg #[.int .u64 (num : Int), .int .i64 (N : Int), sv, gv]] w fun e w' => e = .returned (.bool (decide ((sl.getD (sl.length - 1) 0).toNat / 2 ^ (N % 8) = 0))) ∧ Ext w w' := by
  obtain ⟨A, cap, rfl, _, _, _, hpos⟩ := hS.is
  obtain ⟨A2, cap2, rfl, _, _, _, _⟩ := hG.rd.is
  have HX : Hid (Ext w (w.alloc (.cells #[.int .u64 (num : Int), .int .i64 (N : Int), .slice A sl.length cap, .slice A2 su.length cap2] 68))) := Lib.hid ((Ext.refl w).alloc _)
  have hd1 : decide ((N : Int) < 0) = false := decide_eq_false (by omega)
  have hd2 : decide (4096 < (N : Int)) = false := decide_eq_false (by omega)
  obtain ⟨p8, hp8⟩ : ∃ p, p = (N + 7) / 8 := ⟨_, rfl⟩
  obtain ⟨p16, hp16⟩ : ∃ p, p = (N + 15) / 16 := ⟨_, rfl⟩
  rw [← hp8] at h8
  have HP8 := Lib.hid hp8
  have HP16 := Lib.hid hp16
  rw [← hp16] at h16
  have hd3 : ((sl.length : Int) != (p8 : Int)) = false := by simp; omega
  have hd4 : ((su.length : Int) != (p16 : Int)) = false := by simp; omega
  clear hpos
  have hpl : 0 < sl.length := by omega
  have hlen : sl.length ≤ 600 := by omega
  obtain ⟨bb, oo, capb, hA, _, _, hbl, hcell⟩ := hS.pos hpl
  injection hA with hA1 hA2 hA3
  subst hA1
  subst hA3
  obtain ⟨j, hj⟩ : ∃ j, sl.length - 1 = j := ⟨_, rfl⟩
  have hji : (sl.length : Int) - 1 = (j : Int) := by omega
  obtain ⟨r, hr⟩ : ∃ r, N % 8 = r := ⟨_, rfl⟩
  have hri : (N : Int) % 8 = (r : Int) := by omega
  have hr8 : r < 8 := by omega
  have hjl : j < sl.length := by omega
  have hcj := hcell j hjl
  have hd5 : ((r : Int) == 0) = false := by simp; omega
  rw [hj, hr]
  generalize sl.getD j 0 = x at *
  obtain ⟨bq, hbq⟩ : ∃ bq, decide (x.toNat / 2 ^ r = 0) = bq := ⟨_, rfl⟩
  have hd6 : (i8 x / 2 ^ r == 0) = bq := by
    have e : i8 x / 2 ^ r = ((x.toNat / 2 ^ r : Nat) : Int) := by unfold i8; simp
    rw [e, ← hbq]
    generalize x.toNat / 2 ^ r = q
    by_cases h0 : q = 0
    · subst h0; rfl
    · rw [decide_eq_false h0]
      exact beq_false_of_ne (by omega)
  rw [hbq]
  clear hcell hbq
  have H8 := Lib.hid h8
  have H16 := Lib.hid h16
  have HM := Lib.hid hm
  clear h8 h16 hm hp8 hp16 hj hr
  go_enter Try.func67, Try.ntmps67
  go_wp2
  refine wp_region_m (by kernel_rfl) (by kernel_rfl) ?_; try simp only [Act.put, List.setIfInBounds_toArray, List.set_cons_succ, List.set_cons_zero]
  repeat (first | (refine gq rfl rfl rfl rfl (fun K hK => ?_); go_big_quiet_op; refine hK _ ?_; clear hK K; try simp only [hd1, hd2, hd3, hd4]) | (refine gskip rfl rfl rfl rfl ?_; simp only [Act.put, List.setIfInBounds_toArray, List.set_cons_succ, List.set_cons_zero]))
  refine gc rfl rfl rfl rfl 104 #[.int .i64 (N : Int)] (fun _ => by go_simp) (.int .i64 (p8 : Int)) (fun y => (wide_nat N p8 (by omega) HP8.out _).mono (fun e w' h => ⟨h.1, h.2 ▸ Ext.refl _⟩)) ?_
  simp only [Act.put, List.setIfInBounds_toArray, List.set_cons_succ, List.set_cons_zero]
  repeat (first | (refine gq rfl rfl rfl rfl (fun K hK => ?_); go_big_quiet_op; refine hK _ ?_; clear hK K; try simp only [hd1, hd2, hd3, hd4]) | (refine gskip rfl rfl rfl rfl ?_; simp only [Act.put, List.setIfInBounds_toArray, List.set_cons_succ, List.set_cons_zero]))
  refine gc rfl rfl rfl rfl 65 #[.int .i64 (N : Int)] (fun _ => by go_simp) (.int .i64 (p16 : Int)) (fun y => (parts_nat N p16 (by omega) HP16.out _).mono (fun e w' h => ⟨h.1, h.2 ▸ Ext.refl _⟩)) ?_
  simp only [Act.put, List.setIfInBounds_toArray, List.set_cons_succ, List.set_cons_zero]
  repeat (first | (refine gq rfl rfl rfl rfl (fun K hK => ?_); go_big_quiet_op; refine hK _ ?_; clear hK K; try simp only [hd1, hd2, hd3, hd4]) | (refine gskip rfl rfl rfl rfl ?_; simp only [Act.put, List.setIfInBounds_toArray, List.set_cons_succ, List.set_cons_zero]))
  refine gm_end_at rfl [] rfl (fun xs y hk => ?_)
  clear hk
  simp only [fillM, Act.put, List.setIfInBounds_toArray, List.set_cons_succ, List.set_cons_zero]
  have HY := Lib.hid (HX.out.trans (ext_ext _ y))
  have hc0 := ((ext_ext _ y).block (k := w.heap.size) (by simp)).trans (heap_alloc_last w (.cells #[.int .u64 (num : Int), .int .i64 (N : Int), .slice (some ⟨bb, oo, none⟩) sl.length cap, .slice A2 su.length cap2] 68))
  generalize (w.alloc (.cells #[.int .u64 (num : Int), .int .i64 (N : Int), .slice (some ⟨bb, oo, none⟩) sl.length cap, .slice A2 su.length cap2] 68)).ext y = w1 at *
  have hcj1 : w1.cell? ⟨bb, oo + j, none⟩ = some (B8 x) := (HY.out.cell bb (oo + j) hbl).trans hcj
  have hbl1 : bb < w1.heap.size := Nat.lt_of_lt_of_le hbl HY.out.size
  have hl1 : w.heap.size < w1.heap.size := (Array.getElem?_eq_some_iff.1 hc0).1
  have c1 : w1.cell? ⟨w.heap.size, 1, none⟩ = some (.int .i64 (N : Int)) := by rw [cell_of_row _ _ _ _ _ _ hc0]; rfl
  have c2 : w1.cell? ⟨w.heap.size, 2, none⟩ = some (.slice (some ⟨bb, oo, none⟩) sl.length cap) := by rw [cell_of_row _ _ _ _ _ _ hc0]; rfl
  clear hd1 hd2 hd3 hd4
  have hd1 := hd5
  have hd2 := hd6
  have hd3 := hd5
  have hd4 := hd5
  go_wp2
  refine wp_region_m (by kernel_rfl) (by kernel_rfl) ?_; try simp only [Act.put, List.setIfInBounds_toArray, List.set_cons_succ, List.set_cons_zero]
  repeat (first | (refine gq rfl rfl rfl rfl (fun K hK => ?_); go_big_quiet_op; refine hK _ ?_; clear hK K; try simp only [hd1, hd2, hd3, hd4]) | (refine gskip rfl rfl rfl rfl ?_; simp only [Act.put, List.setIfInBounds_toArray, List.set_cons_succ, List.set_cons_zero]))
  refine gm_end_at rfl [] rfl (fun xs z hk => ?_)
  clear hk
  simp only [fillM, Act.put, List.setIfInBounds_toArray, List.set_cons_succ, List.set_cons_zero]
  have HZ := Lib.hid (HY.out.trans (ext_ext w1 z))
  go_wp2
  go_ret
  exact ⟨rfl, HZ.out⟩
end Go.Proofs.Ytapojpjmeadabaa
end

section
/- sacristanref08.Right. -/
namespace Go.Proofs.Ytapojpjmeadabaa
open Go.RowKit
set_option linter.unusedVariables false
set_option linter.unusedSimpArgs false
attribute [local go_sem] lt_ext cell?_ext frozen?_ext shape?_ext
attribute [local go_sem] u8_xor u8_or i8_mod u8_wrap

theorem sright_any (x : Se) (w : World) (hR : SeR w x) : Calls Try.prog 67 #[x.v] w fun e w' => e = .returned (.bool (rightB x.blk x.sl x.su)) ∧ Ext w w' := by
  by_cases h1 : x.blk < 0
  · have e : rightB x.blk x.sl x.su = false := by unfold rightB; rw [decide_eq_false (by omega)]; rfl
    rw [e]
    exact right_neg x w hR h1
  · by_cases h2 : 4096 < x.blk
    · have e : rightB x.blk x.sl x.su = false := by unfold rightB; rw [decide_eq_false (show ¬ x.blk ≤ 4096 by omega), Bool.and_false]; rfl
      rw [e]
      exact right_big x w hR h2
    · obtain ⟨N, hN⟩ : ∃ N : Nat, x.blk = N := ⟨x.blk.toNat, by omega⟩
      have e : rightB x.blk x.sl x.su = rightN N x.sl x.su := by unfold rightB; rw [hN, decide_eq_true (by omega), decide_eq_true (by omega)]; rfl
      rw [e]
      obtain ⟨num, blk, sl, su, sv, gv⟩ := x
      simp only at hN
      subst hN
      have hS := hR.sl
      have hG := hR.su
      simp only at hS hG h2 ⊢
      unfold rightN
      by_cases h8 : sl.length = (N + 7) / 8
      · by_cases h16 : su.length = (N + 15) / 16
        · rw [decide_eq_true h8, decide_eq_true h16]
          by_cases hm : N % 8 = 0
          · rw [decide_eq_true hm]
            exact right_c3 num N sl su sv gv w (by omega) hS hG h8 h16 hm
          · rw [decide_eq_false hm]
            exact right_c4 num N sl su sv gv w (by omega) hS hG h8 h16 hm
        · rw [decide_eq_false h16, Bool.and_false]
          exact right_c2 num N sl su sv gv w (by omega) hS hG h8 h16
      · rw [decide_eq_false h8]
        exact right_c1 num N sl su sv gv w (by omega) hS hG h8
theorem bits_fin : ∀ (x : Fin 256) (r : Fin 8), (∀ m : Fin 8, r ≤ m → x.1 / 2 ^ m.1 % 2 = 0) ↔ x.1 / 2 ^ r.1 = 0 := by decide +kernel
theorem rightbit (N : Nat) (sl : List UInt8) (h8 : sl.length = (N + 7) / 8) :
    (∀ i, N ≤ i → i < 8 * sl.length → slotN sl i = 0) ↔ (decide (N % 8 = 0) || decide ((sl.getD (sl.length - 1) 0).toNat / 2 ^ (N % 8) = 0)) = true := by
  by_cases hm : N % 8 = 0
  · rw [decide_eq_true hm]
    simp only [Bool.true_or, iff_true]
    intro i h1 h2
    omega
  · rw [decide_eq_false hm, Bool.false_or, decide_eq_true_eq]
    have hb := bits_fin ⟨(sl.getD (sl.length - 1) 0).toNat, (sl.getD (sl.length - 1) 0).toNat_lt⟩ ⟨N % 8, Nat.mod_lt _ (by omega)⟩
    rw [← hb]
    constructor
    · intro h m hm2
      have hm2 : N % 8 ≤ m.1 := hm2
      have h1 := h (8 * (sl.length - 1) + m.1) (by omega) (by omega)
      unfold slotN at h1
      rw [show (8 * (sl.length - 1) + m.1) / 8 = sl.length - 1 by omega, show (8 * (sl.length - 1) + m.1) % 8 = m.1 by omega] at h1
      exact h1
    · intro h i h1 h2
      have h3 := h ⟨i % 8, Nat.mod_lt _ (by omega)⟩ (show N % 8 ≤ i % 8 by omega)
      unfold slotN
      rw [show i / 8 = sl.length - 1 by omega]
      exact h3
set_option maxRecDepth 100000 in
set_option maxHeartbeats 1000000 in
theorem rright_neg (x : Se) (w : World) (hR : SeR w x) (hb : x.blk < 0) :
    Calls Try.prog 62 #[x.v] w fun e w' => e = .returned (.bool false) ∧ Ext w w' := by
  obtain ⟨num, blk, sl, su, sv, gv⟩ := x
  obtain ⟨A, cap, h1, _, _, _, hpos⟩ := hR.sl.is
  obtain ⟨A2, cap2, h2, _, _, _, _⟩ := hR.su.rd.is
  simp only at h1 h2 hb
  subst h1; subst h2
  have HX : Hid (Ext w (w.alloc (.cells #[.int .u64 (num : Int), .int .i64 blk, .slice A sl.length cap, .slice A2 su.length cap2] 68))) := Lib.hid ((Ext.refl w).alloc _)
  have hc0 := heap_alloc_last w (.cells #[.int .u64 (num : Int), .int .i64 blk, .slice A sl.length cap, .slice A2 su.length cap2] 68)
  have hd1 : decide (blk < 0) = true := decide_eq_true hb
  have hd2 := hd1
  have hd3 := hd1
  have hd4 := hd1
  have hd5 := hd1
  show Calls Try.prog 62 #[.agg #[.int .u64 (num : Int), .int .i64 blk, .slice A sl.length cap, .slice A2 su.length cap2]] w _
  go_enter Try.func62, Try.ntmps62
  go_wp2
  refine wp_region_m (by kernel_rfl) (by kernel_rfl) ?_; try simp only [Act.put, List.setIfInBounds_toArray, List.set_cons_succ, List.set_cons_zero]
  repeat (first | (refine gq rfl rfl rfl rfl (fun K hK => ?_); go_big_quiet_op; refine hK _ ?_; clear hK K; try simp only [hd1, hd2, hd3, hd4, hd5]) | (refine gskip rfl rfl rfl rfl ?_; simp only [Act.put, List.setIfInBounds_toArray, List.set_cons_succ, List.set_cons_zero]))
  refine gm_end_at rfl [] rfl (fun xs y hk => ?_)
  clear hk
  simp only [fillM, Act.put, List.setIfInBounds_toArray, List.set_cons_succ, List.set_cons_zero]
  have HY := Lib.hid (HX.out.trans (ext_ext _ y))
  go_wp2
  go_ret
  exact ⟨rfl, HY.out⟩
set_option maxRecDepth 100000 in
set_option maxHeartbeats 1000000 in
theorem rright_big (x : Se) (w : World) (hR : SeR w x) (hb : 4096 < x.blk) :
    Calls Try.prog 62 #[x.v] w fun e w' => e = .returned (.bool false) ∧ Ext w w' := by
  obtain ⟨num, blk, sl, su, sv, gv⟩ := x
  obtain ⟨A, cap, h1, _, _, _, hpos⟩ := hR.sl.is
  obtain ⟨A2, cap2, h2, _, _, _, _⟩ := hR.su.rd.is
  simp only at h1 h2 hb
  subst h1; subst h2
  have HX : Hid (Ext w (w.alloc (.cells #[.int .u64 (num : Int), .int .i64 blk, .slice A sl.length cap, .slice A2 su.length cap2] 68))) := Lib.hid ((Ext.refl w).alloc _)
  have hc0 := heap_alloc_last w (.cells #[.int .u64 (num : Int), .int .i64 blk, .slice A sl.length cap, .slice A2 su.length cap2] 68)
  have hd1 : decide (4096 < blk) = true := decide_eq_true hb
  have hd2 : decide (blk < 0) = false := decide_eq_false (by omega)
  have hd3 := hd1
  have hd4 := hd1
  have hd5 := hd1
  show Calls Try.prog 62 #[.agg #[.int .u64 (num : Int), .int .i64 blk, .slice A sl.length cap, .slice A2 su.length cap2]] w _
  go_enter Try.func62, Try.ntmps62
  go_wp2
  refine wp_region_m (by kernel_rfl) (by kernel_rfl) ?_; try simp only [Act.put, List.setIfInBounds_toArray, List.set_cons_succ, List.set_cons_zero]
  repeat (first | (refine gq rfl rfl rfl rfl (fun K hK => ?_); go_big_quiet_op; refine hK _ ?_; clear hK K; try simp only [hd1, hd2, hd3, hd4, hd5]) | (refine gskip rfl rfl rfl rfl ?_; simp only [Act.put, List.setIfInBounds_toArray, List.set_cons_succ, List.set_cons_zero]))
  refine gm_end_at rfl [] rfl (fun xs y hk => ?_)
  clear hk
  simp only [fillM, Act.put, List.setIfInBounds_toArray, List.set_cons_succ, List.set_cons_zero]
  have HY := Lib.hid (HX.out.trans (ext_ext _ y))
  go_wp2
  go_ret
  exact ⟨rfl, HY.out⟩
set_option maxRecDepth 100000 in
set_option maxHeartbeats 1000000 in
theorem rright_c1 (num N : Nat) (sl : List UInt8) (su : List (List UInt8)) (sv gv : Value) (w : World) (hN : N ≤ 4096) (hl : sl.length ≤ 140737488355328) (hS : Bs w sv sl) (hG : Dgs w gv su) (h16 : su.length ≠ (N + 15) / 16) :
    Calls Try.prog 62 #[.agg #[.int .u64 (num : Int), .int .i64 (N : Int), sv, gv]] w fun e w' => e = .returned (.bool false) ∧ Ext w w' := by
  obtain ⟨A, cap, rfl, _, _, _, _⟩ := hS.is
  obtain ⟨A2, cap2, rfl, _, _, _, _⟩ := hG.rd.is
  have HX : Hid (Ext w (w.alloc (.cells #[.int .u64 (num : Int), .int .i64 (N : Int), .slice A sl.length cap, .slice A2 su.length cap2] 68))) := Lib.hid ((Ext.refl w).alloc _)
  have hd1 : decide ((N : Int) < 0) = false := decide_eq_false (by omega)
  have hd2 : decide (4096 < (N : Int)) = false := decide_eq_false (by omega)
  obtain ⟨p16, hp16⟩ : ∃ p, p = (N + 15) / 16 := ⟨_, rfl⟩
  have HP16 := Lib.hid hp16
  rw [← hp16] at h16
  have hd3 : ((su.length : Int) != (p16 : Int)) = true := by simp; omega
  have hd4 := hd3
  have hd5 := hd3
  clear h16 hp16
  go_enter Try.func62, Try.ntmps62
  go_wp2
  refine wp_region_m (by kernel_rfl) (by kernel_rfl) ?_; try simp only [Act.put, List.setIfInBounds_toArray, List.set_cons_succ, List.set_cons_zero]
  repeat (first | (refine gq rfl rfl rfl rfl (fun K hK => ?_); go_big_quiet_op; refine hK _ ?_; clear hK K; try simp only [hd1, hd2, hd3, hd4, hd5]) | (refine gskip rfl rfl rfl rfl ?_; simp only [Act.put, List.setIfInBounds_toArray, List.set_cons_succ, List.set_cons_zero]))
  refine gc rfl rfl rfl rfl 73 #[.int .i64 (N : Int)] (fun _ => by go_simp) (.int .i64 (p16 : Int)) (fun y => (rparts_nat N p16 (by omega) HP16.out _).mono (fun e w' h => ⟨h.1, h.2 ▸ Ext.refl _⟩)) ?_
  simp only [Act.put, List.setIfInBounds_toArray, List.set_cons_succ, List.set_cons_zero]
  repeat (first | (refine gq rfl rfl rfl rfl (fun K hK => ?_); go_big_quiet_op; refine hK _ ?_; clear hK K; try simp only [hd1, hd2, hd3, hd4, hd5]) | (refine gskip rfl rfl rfl rfl ?_; simp only [Act.put, List.setIfInBounds_toArray, List.set_cons_succ, List.set_cons_zero]))
  refine gm_end_at rfl [] rfl (fun xs y hk => ?_)
  clear hk
  simp only [fillM, Act.put, List.setIfInBounds_toArray, List.set_cons_succ, List.set_cons_zero]
  have HY := Lib.hid (HX.out.trans (ext_ext _ y))
  go_wp2
  go_ret
  exact ⟨rfl, HY.out⟩
set_option maxRecDepth 100000 in
set_option maxHeartbeats 1000000 in
theorem rright_c2 (num N : Nat) (sl : List UInt8) (su : List (List UInt8)) (sv gv : Value) (w : World) (hN : N ≤ 4096) (hl : sl.length ≤ 140737488355328) (hS : Bs w sv sl) (hG : Dgs w gv su) (h16 : su.length = (N + 15) / 16) (h8 : 8 * sl.length < N) :
    Calls Try.prog 62 #[.agg #[.int .u64 (num : Int), .int .i64 (N : Int), sv, gv]] w fun e w' => e = .returned (.bool false) ∧ Ext w w' := by
  obtain ⟨A, cap, rfl, _, _, _, _⟩ := hS.is
  obtain ⟨A2, cap2, rfl, _, _, _, _⟩ := hG.rd.is
  have HX : Hid (Ext w (w.alloc (.cells #[.int .u64 (num : Int), .int .i64 (N : Int), .slice A sl.length cap, .slice A2 su.length cap2] 68))) := Lib.hid ((Ext.refl w).alloc _)
  have hd1 : decide ((N : Int) < 0) = false := decide_eq_false (by omega)
  have hd2 : decide (4096 < (N : Int)) = false := decide_eq_false (by omega)
  obtain ⟨p16, hp16⟩ : ∃ p, p = (N + 15) / 16 := ⟨_, rfl⟩
  have HP16 := Lib.hid hp16
  rw [← hp16] at h16
  have hd3 : ((su.length : Int) != (p16 : Int)) = false := by simp; omega
  have hd4 : decide (8 * (sl.length : Int) < (N : Int)) = true := decide_eq_true (by omega)
  have hd5 := hd4
  clear h16 hp16 h8
  go_enter Try.func62, Try.ntmps62
  go_wp2
  refine wp_region_m (by kernel_rfl) (by kernel_rfl) ?_; try simp only [Act.put, List.setIfInBounds_toArray, List.set_cons_succ, List.set_cons_zero]
  repeat (first | (refine gq rfl rfl rfl rfl (fun K hK => ?_); go_big_quiet_op; refine hK _ ?_; clear hK K; try simp only [hd1, hd2, hd3, hd4, hd5]) | (refine gskip rfl rfl rfl rfl ?_; simp only [Act.put, List.setIfInBounds_toArray, List.set_cons_succ, List.set_cons_zero]))
  refine gc rfl rfl rfl rfl 73 #[.int .i64 (N : Int)] (fun _ => by go_simp) (.int .i64 (p16 : Int)) (fun y => (rparts_nat N p16 (by omega) HP16.out _).mono (fun e w' h => ⟨h.1, h.2 ▸ Ext.refl _⟩)) ?_
  simp only [Act.put, List.setIfInBounds_toArray, List.set_cons_succ, List.set_cons_zero]
  repeat (first | (refine gq rfl rfl rfl rfl (fun K hK => ?_); go_big_quiet_op; refine hK _ ?_; clear hK K; try simp only [hd1, hd2, hd3, hd4, hd5]) | (refine gskip rfl rfl rfl rfl ?_; simp only [Act.put, List.setIfInBounds_toArray, List.set_cons_succ, List.set_cons_zero]))
  refine gm_end_at rfl [] rfl (fun xs y hk => ?_)
  clear hk
  simp only [fillM, Act.put, List.setIfInBounds_toArray, List.set_cons_succ, List.set_cons_zero]
  have HY := Lib.hid (HX.out.trans (ext_ext _ y))
  go_wp2
  go_ret
  exact ⟨rfl, HY.out⟩
set_option maxRecDepth 100000 in
set_option maxHeartbeats 1000000 in
theorem rright_c3 (num N : Nat) (sl : List UInt8) (su : List (List UInt8)) (sv gv : Value) (w : World) (hN : N ≤ 4096) (hl : sl.length ≤ 140737488355328) (hS : Bs w sv sl) (hG : Dgs w gv su) (h16 : su.length = (N + 15) / 16) (h8 : N + 8 ≤ 8 * sl.length) :
    Calls Try.prog 62 #[.agg #[.int .u64 (num : Int), .int .i64 (N : Int), sv, gv]] w fun e w' => e = .returned (.bool false) ∧ Ext w w' := by
  obtain ⟨A, cap, rfl, _, _, _, _⟩ := hS.is
  obtain ⟨A2, cap2, rfl, _, _, _, _⟩ := hG.rd.is
  have HX : Hid (Ext w (w.alloc (.cells #[.int .u64 (num : Int), .int .i64 (N : Int), .slice A sl.length cap, .slice A2 su.length cap2] 68))) := Lib.hid ((Ext.refl w).alloc _)
  have hd1 : decide ((N : Int) < 0) = false := decide_eq_false (by omega)
  have hd2 : decide (4096 < (N : Int)) = false := decide_eq_false (by omega)
  obtain ⟨p16, hp16⟩ : ∃ p, p = (N + 15) / 16 := ⟨_, rfl⟩
  have HP16 := Lib.hid hp16
  rw [← hp16] at h16
  have hd3 : ((su.length : Int) != (p16 : Int)) = false := by simp; omega
  have hd4 : decide (8 * (sl.length : Int) < (N : Int)) = false := decide_eq_false (by omega)
  have hd5 : decide ((N : Int) + 8 ≤ 8 * (sl.length : Int)) = true := decide_eq_true (by omega)
  clear h16 hp16 h8
  go_enter Try.func62, Try.ntmps62
  go_wp2
  refine wp_region_m (by kernel_rfl) (by kernel_rfl) ?_; try simp only [Act.put, List.setIfInBounds_toArray, List.set_cons_succ, List.set_cons_zero]
  repeat (first | (refine gq rfl rfl rfl rfl (fun K hK => ?_); go_big_quiet_op; refine hK _ ?_; clear hK K; try simp only [hd1, hd2, hd3, hd4, hd5]) | (refine gskip rfl rfl rfl rfl ?_; simp only [Act.put, List.setIfInBounds_toArray, List.set_cons_succ, List.set_cons_zero]))
  refine gc rfl rfl rfl rfl 73 #[.int .i64 (N : Int)] (fun _ => by go_simp) (.int .i64 (p16 : Int)) (fun y => (rparts_nat N p16 (by omega) HP16.out _).mono (fun e w' h => ⟨h.1, h.2 ▸ Ext.refl _⟩)) ?_
  simp only [Act.put, List.setIfInBounds_toArray, List.set_cons_succ, List.set_cons_zero]
  repeat (first | (refine gq rfl rfl rfl rfl (fun K hK => ?_); go_big_quiet_op; refine hK _ ?_; clear hK K; try simp only [hd1, hd2, hd3, hd4, hd5]) | (refine gskip rfl rfl rfl rfl ?_; simp only [Act.put, List.setIfInBounds_toArray, List.set_cons_succ, List.set_cons_zero]))
  refine gm_end_at rfl [] rfl (fun xs y hk => ?_)
  clear hk
  simp only [fillM, Act.put, List.setIfInBounds_toArray, List.set_cons_succ, List.set_cons_zero]
  have HY := Lib.hid (HX.out.trans (ext_ext _ y))
  go_wp2
  go_ret
  exact ⟨rfl, HY.out⟩
set_option maxRecDepth 100000 in
set_option maxHeartbeats 1000000 in
theorem rright_c4 (num N : Nat) (sl : List UInt8) (su : List (List UInt8)) (sv gv : Value) (w : World) (hN : N ≤ 4096) (hS : Bs w sv sl) (hG : Dgs w gv su) (h16 : su.length = (N + 15) / 16) (h8 : sl.length = (N + 7) / 8) :
    Calls Try.prog 62 #[.agg #[.int .u64 (num : Int), .int .i64 (N : Int), sv, gv]] w fun e w' => e = .returned (.bool (decide (N % 8 = 0) || decide ((sl.getD (sl.length - 1) 0).toNat / 2 ^ (N % 8) = 0))) ∧ Ext w w' := by
  obtain ⟨bq, hbq⟩ : ∃ bq, (decide (N % 8 = 0) || decide ((sl.getD (sl.length - 1) 0).toNat / 2 ^ (N % 8) = 0)) = bq := ⟨_, rfl⟩
  have HB : Hid ((∀ i, N ≤ i → i < 8 * sl.length → slotN sl i = 0) ↔ bq = true) := Lib.hid (by rw [← hbq]; exact rightbit N sl h8)
  rw [hbq]
  obtain ⟨A, cap, rfl, _, _, _, _⟩ := hS.is
  obtain ⟨A2, cap2, rfl, _, _, _, _⟩ := hG.rd.is
  have HX : Hid (Ext w (w.alloc (.cells #[.int .u64 (num : Int), .int .i64 (N : Int), .slice A sl.length cap, .slice A2 su.length cap2] 68))) := Lib.hid ((Ext.refl w).alloc _)
  have hd1 : decide ((N : Int) < 0) = false := decide_eq_false (by omega)
  have hd2 : decide (4096 < (N : Int)) = false := decide_eq_false (by omega)
  obtain ⟨p16, hp16⟩ : ∃ p, p = (N + 15) / 16 := ⟨_, rfl⟩
  have HP16 := Lib.hid hp16
  rw [← hp16] at h16
  have hd3 : ((su.length : Int) != (p16 : Int)) = false := by simp; omega
  have hd4 : decide (8 * (sl.length : Int) < (N : Int)) = false := decide_eq_false (by omega)
  have hd5 : decide ((N : Int) + 8 ≤ 8 * (sl.length : Int)) = false := decide_eq_false (by omega)
  have hl : sl.length ≤ 600 := by omega
  have hN8 : N ≤ 8 * sl.length := by omega
  have HG := Lib.hid hG
  have HS := Lib.hid hS
  clear h16 hp16 h8 hbq hG hS
  go_enter Try.func62, Try.ntmps62
  go_wp2
  refine wp_region_m (by kernel_rfl) (by kernel_rfl) ?_; try simp only [Act.put, List.setIfInBounds_toArray, List.set_cons_succ, List.set_cons_zero]
  repeat (first | (refine gq rfl rfl rfl rfl (fun K hK => ?_); go_big_quiet_op; refine hK _ ?_; clear hK K; try simp only [hd1, hd2, hd3, hd4, hd5]) | (refine gskip rfl rfl rfl rfl ?_; simp only [Act.put, List.setIfInBounds_toArray, List.set_cons_succ, List.set_cons_zero]))
  refine gc rfl rfl rfl rfl 73 #[.int .i64 (N : Int)] (fun _ => by go_simp) (.int .i64 (p16 : Int)) (fun y => (rparts_nat N p16 (by omega) HP16.out _).mono (fun e w' h => ⟨h.1, h.2 ▸ Ext.refl _⟩)) ?_
  simp only [Act.put, List.setIfInBounds_toArray, List.set_cons_succ, List.set_cons_zero]
  repeat (first | (refine gq rfl rfl rfl rfl (fun K hK => ?_); go_big_quiet_op; refine hK _ ?_; clear hK K; try simp only [hd1, hd2, hd3, hd4, hd5]) | (refine gskip rfl rfl rfl rfl ?_; simp only [Act.put, List.setIfInBounds_toArray, List.set_cons_succ, List.set_cons_zero]))
  refine gm_end_at rfl [] rfl (fun xs y hk => ?_)
  clear hk
  simp only [fillM, Act.put, List.setIfInBounds_toArray, List.set_cons_succ, List.set_cons_zero]
  have HY := Lib.hid (HX.out.trans (ext_ext _ y))
  have hc0 := ((ext_ext _ y).block (k := w.heap.size) (by simp)).trans (heap_alloc_last w (.cells #[.int .u64 (num : Int), .int .i64 (N : Int), .slice A sl.length cap, .slice A2 su.length cap2] 68))
  generalize (w.alloc (.cells #[.int .u64 (num : Int), .int .i64 (N : Int), .slice A sl.length cap, .slice A2 su.length cap2] 68)).ext y = w1 at *
  have HC := Lib.hid hc0
  have c1 : w1.cell? ⟨w.heap.size, 1, none⟩ = some (.int .i64 (N : Int)) := by rw [cell_of_row _ _ _ _ _ _ hc0]; rfl
  clear hc0 hd1 hd2 hd3 hd4 hd5
  go_wp2
  go_loopw [3] (fun i wr => ∃ k : Nat, N ≤ k ∧ k ≤ 8 * sl.length ∧ i = .int .i64 k ∧ (∀ i, N ≤ i → i < k → slotN sl i = 0) ∧ wr.heap[w.heap.size]? = some (.cells #[.int .u64 (num : Int), .int .i64 (N : Int), .slice A sl.length cap, .slice A2 su.length cap2] 68 (0, 0)) ∧ Ext w wr) (fun i _ => 8 * sl.length - (intOf i).toNat)
  case atStart => exact ⟨N, Nat.le_refl _, hN8, rfl, fun i h1 h2 => by omega, HC.out, HY.out⟩
  case round =>
    obtain ⟨k, hk1, hk2, rfl, hz, hc, hx⟩ := hrel
    have hc1 : wr.cell? ⟨w.heap.size, 0, none⟩ = some (.int .u64 (num : Int)) := by rw [cell_of_row _ _ _ _ _ _ hc]; rfl
    have hc2 : wr.cell? ⟨w.heap.size, 1, none⟩ = some (.int .i64 (N : Int)) := by rw [cell_of_row _ _ _ _ _ _ hc]; rfl
    have hc3 : wr.cell? ⟨w.heap.size, 2, none⟩ = some (.slice A sl.length cap) := by rw [cell_of_row _ _ _ _ _ _ hc]; rfl
    have hc4 : wr.cell? ⟨w.heap.size, 3, none⟩ = some (.slice A2 su.length cap2) := by rw [cell_of_row _ _ _ _ _ _ hc]; rfl
    have HC2 := Lib.hid hc
    have HX2 := Lib.hid hx
    have HZ := Lib.hid hz
    clear c1 HC hc hx hz
    by_cases hlt : k < 8 * sl.length
    · have hltI : (k : Int) < 8 * (sl.length : Int) := by omega
      obtain ⟨s, hs⟩ : ∃ s, slotN sl k = s := ⟨_, rfl⟩
      have HSK := Lib.hid hs
      clear hs
      by_cases h1 : s = 1
      · subst h1
        have hbf : bq = false := by
          cases hb : bq with
          | false => rfl
          | true =>
            exfalso
            have := (HB.out.2 hb) k hk1 hlt
            rw [HSK.out] at this
            cases this
        have HBF := Lib.hid hbf
        clear hbf
        go_wp2_with (go_at_call 76; go_must (refine (rslot_in _ _ _ _ sl k (by omega) (by omega) ⟨_, rfl⟩ ⟨_, rfl⟩ ⟨_, _, _, rfl⟩ _ (Rd.ext HS.out HX2.out)).mono ?_; rintro e w4 ⟨rfl, hx4⟩; rw [HSK.out]; have HX4 := Lib.hid (HX2.out.trans hx4); clear hx4))
        rw [HBF.out]
        go_ret
        exact ⟨rfl, HX4.out⟩
      · have hne : ¬ (s : Int) = 1 := by omega
        have hs0 : s = 0 := by have := HSK.out; unfold slotN at this; omega
        have HS0 := Lib.hid hs0
        clear hs0
        go_wp2_with (go_at_call 76; go_must (refine (rslot_in _ _ _ _ sl k (by omega) (by omega) ⟨_, rfl⟩ ⟨_, rfl⟩ ⟨_, _, _, rfl⟩ _ (Rd.ext HS.out HX2.out)).mono ?_; rintro e w4 ⟨rfl, hx4⟩; rw [HSK.out]; have HX4 := Lib.hid (HX2.out.trans hx4); have HC4 := Lib.hid ((hx4.block (Array.getElem?_eq_some_iff.1 HC2.out).1).trans HC2.out); clear hx4))
        go_roundw
        case rel => exact ⟨k + 1, by omega, by omega, by go_num, (fun i h1 h2 => (Nat.lt_or_ge i k).elim (fun h3 => HZ.out i h1 h3) (fun h3 => (show slotN sl i = 0 by obtain rfl : i = k := (by omega); rw [HSK.out, HS0.out]))), HC4.out, HX4.out⟩
        case measure => (simp [intOf] <;> omega)
    · obtain rfl : k = 8 * sl.length := by omega
      have hbt : bq = true := HB.out.1 HZ.out
      subst hbt
      go_wp2
      go_ret
      exact ⟨rfl, HX2.out⟩
theorem rright_any (x : Se) (w : World) (hR : SeR w x) (hl : x.sl.length ≤ 140737488355328) : Calls Try.prog 62 #[x.v] w fun e w' => e = .returned (.bool (rightB x.blk x.sl x.su)) ∧ Ext w w' := by
  by_cases h1 : x.blk < 0
  · have e : rightB x.blk x.sl x.su = false := by unfold rightB; rw [decide_eq_false (by omega)]; rfl
    rw [e]
    exact rright_neg x w hR h1
  · by_cases h2 : 4096 < x.blk
    · have e : rightB x.blk x.sl x.su = false := by unfold rightB; rw [decide_eq_false (show ¬ x.blk ≤ 4096 by omega), Bool.and_false]; rfl
      rw [e]
      exact rright_big x w hR h2
    · obtain ⟨N, hN⟩ : ∃ N : Nat, x.blk = N := ⟨x.blk.toNat, by omega⟩
      have e : rightB x.blk x.sl x.su = rightN N x.sl x.su := by unfold rightB; rw [hN, decide_eq_true (by omega), decide_eq_true (by omega)]; rfl
      rw [e]
      obtain ⟨num, blk, sl, su, sv, gv⟩ := x
      simp only at hN
      subst hN
      have hS := hR.sl
      have hG := hR.su
      simp only at hS hG h2 hl ⊢
      unfold rightN
      by_cases h16 : su.length = (N + 15) / 16
      · rw [decide_eq_true h16, Bool.and_true]
        by_cases h8 : sl.length = (N + 7) / 8
        · rw [decide_eq_true h8]
          exact rright_c4 num N sl su sv gv w (by omega) hS hG h16 h8
        · rw [decide_eq_false h8]
          by_cases h9 : 8 * sl.length < N
          · exact rright_c2 num N sl su sv gv w (by omega) hl hS hG h16 h9
          · exact rright_c3 num N sl su sv gv w (by omega) hl hS hG h16 (by omega)
      · rw [decide_eq_false h16, Bool.and_false]
        exact rright_c1 num N sl su sv gv w (by omega) hl hS hG h16
end Go.Proofs.Ytapojpjmeadabaa
end

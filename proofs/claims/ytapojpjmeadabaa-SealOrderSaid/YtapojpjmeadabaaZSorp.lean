/- Sorp, Sord: several texts in one. -/
import Derived.Test.YtapojpjmeadabaaZScho
import Derived.Test.YtapojpjmeadabaaZBld
section
/- Many that are sealed: plain; two slices of byte slices beside each other. -/
namespace Go.Proofs.Ytapojpjmeadabaa
open Go.RowKit
set_option linter.unusedVariables false
set_option linter.unusedSimpArgs false
attribute [local go_sem] lt_ext cell?_ext frozen?_ext shape?_ext

/-! ### Plain. -/
def encA (E : Nat → List UInt8) (l : List UInt8) : List (List UInt8) := l.map fun x => E x.toNat
def encB (E : Nat → List UInt8) (o : List UInt8) (l : List UInt8) : List (List UInt8) := l.flatMap fun x => [o, E x.toNat]
def anyN (n : Nat) (l : List UInt8) : Bool := l.any fun x => decide (x.toNat = n)
theorem take_snocB (l : List UInt8) (k : Nat) (hk : k < l.length) : l.take (k + 1) = l.take k ++ [l.getD k 0] := by
  rw [List.take_add_one, List.getD_eq_getElem?_getD, List.getElem?_eq_getElem hk]
  simp
theorem encA_next (E : Nat → List UInt8) (l : List UInt8) (k : Nat) (hk : k < l.length) : encA E (l.take (k + 1)) = encA E (l.take k) ++ [E (l.getD k 0).toNat] := by
  unfold encA
  rw [take_snocB l k hk, List.map_append]
  rfl
theorem encB_next (E : Nat → List UInt8) (o : List UInt8) (l : List UInt8) (k : Nat) (hk : k < l.length) : encB E o (l.take (k + 1)) = encB E o (l.take k) ++ [o] ++ [E (l.getD k 0).toNat] := by
  unfold encB
  rw [take_snocB l k hk, List.flatMap_append]
  simp
theorem anyN_next (n : Nat) (l : List UInt8) (k : Nat) (hk : k < l.length) : anyN n (l.take (k + 1)) = (anyN n (l.take k) || decide ((l.getD k 0).toNat = n)) := by
  unfold anyN
  rw [take_snocB l k hk, List.any_append]
  simp
theorem encA_length (E : Nat → List UInt8) (l : List UInt8) : (encA E l).length = l.length := by simp [encA]
theorem encB_length (E : Nat → List UInt8) (o : List UInt8) (l : List UInt8) : (encB E o l).length = 2 * l.length := by
  unfold encB
  induction l with
  | nil => rfl
  | cons x r ih =>
    simp only [List.flatMap_cons, List.length_append, List.length_cons, List.length_nil, ih]
    omega
theorem pick_encA (key : List UInt8) (n : Nat) (E : Nat → List UInt8) (hE : ∀ m, m ≤ 18446744073709551615 → good key (E m) = true ∧ fnum (E m) = m) (l : List UInt8) : pick key n (encA E l) = if anyN n l then some (E n) else none := by
  unfold pick encA anyN
  induction l with
  | nil => rfl
  | cons x r ih =>
    have hx := x.toNat_lt
    obtain ⟨h1, h2⟩ := hE x.toNat (by omega)
    simp only [List.map_cons, List.find?_cons, List.any_cons, h1, h2, Bool.true_and]
    by_cases h : x.toNat = n
    · simp [h]
    · simp only [decide_eq_false h, Bool.false_or]
      exact ih
theorem pick_encB (key : List UInt8) (n : Nat) (E : Nat → List UInt8) (o : List UInt8) (ho : good key o = false) (hE : ∀ m, m ≤ 18446744073709551615 → good key (E m) = true ∧ fnum (E m) = m) (l : List UInt8) : pick key n (encB E o l) = if anyN n l then some (E n) else none := by
  unfold pick encB anyN
  induction l with
  | nil => rfl
  | cons x r ih =>
    have hx := x.toNat_lt
    obtain ⟨h1, h2⟩ := hE x.toNat (by omega)
    simp only [List.flatMap_cons, List.cons_append, List.nil_append, List.find?_cons, List.any_cons, ho, Bool.false_and, h1, h2, Bool.true_and]
    by_cases h : x.toNat = n
    · simp [h]
    · simp only [decide_eq_false h, Bool.false_or]
      exact ih
theorem good_few (key b : List UInt8) (h : b.length < 48) : good key b = false := by
  unfold good
  rw [decide_eq_false (show ¬ b.length = flong b by unfold flong; omega)]
  simp

/-! ### Two slices beside each other. -/
def Apart (va vb : Value) : Prop := ∀ g, va.ownBlock = some g → vb.ownBlock ≠ some g
theorem NewS.beside {q : Bool} {w0 w1 w2 : World} {va vb : Value} {vsa vsb : List Value} {la lb : List (List UInt8)} (hb : NewS q w0 vb vsb lb w1) (ha : NewS q w0 va vsa la w1) (hd : Apart va vb) (hg : Grew w1 w2 va) : NewS q w0 vb vsb lb w2 := by
  refine ⟨Own.chg hb.own (Chg.of_grew hg) (fun g hv e => hd g e.symm hv), ?_, hb.fr, fun i hi => ?_⟩
  · exact (Chg.trans (Chg.of_ext ha.ext (fun k => some k = va.ownBlock)) (Chg.of_grew hg) (fun k _ hk => hk)).ext fun k hk => ha.fr k hk.symm
  · obtain ⟨u, h1, h2⟩ := hb.each i hi
    exact ⟨u, h1, h2.imp (fun k => Own.other k ha.own (by decide) hg) id⟩
theorem NewS.upd {q : Bool} {w0 w w' : World} {v : Value} {vs : List Value} {ls : List (List UInt8)} {g : Nat} {c : Array Value} (h : NewS q w0 v vs ls w) (hu : Upd w w' g) (hg : At68 w g c) (hge : w0.heap.size ≤ g) : NewS q w0 v vs ls w' :=
  ⟨Own.upd68 h.own hu hg (by decide), h.ext.upd_new hu hge, h.fr, fun i hi => by
    obtain ⟨u, h1, h2⟩ := h.each i hi
    exact ⟨u, h1, h2.imp (fun k => Own.upd68 k hu hg (by decide)) id⟩⟩
theorem OwnB.grew23 {w w' : World} {u v : Value} {l : List UInt8} {n : Nat} {xs : List Value} (h : OwnB w u l) (ho : Own w 23 1 v n xs) (hg : Grew w w' v) : OwnB w' u l := Own.other h ho (by decide) hg
theorem Apart.grown {w : World} {va va' vb : Value} {e : TypeId} {sz n : Nat} {xs : List Value} (h : Apart va vb) (hb : Own w e sz vb n xs) (hf : va'.ownBlock = va.ownBlock ∨ ∀ g, va'.ownBlock = some g → w.heap.size ≤ g) : Apart va' vb := fun g hg hv => by
  rcases hf with e | e
  · exact h g (e ▸ hg) hv
  · have := e g hg
    have h2 := hb.lt hv
    omega
theorem Apart.symm {va vb : Value} (h : Apart va vb) : Apart vb va := fun g hg hv => h g hv hg
theorem one_val (w : World) (u : Value) (h : u.oneCell' = true) : Rd (w.alloc (.cells #[u] 23)) 1 (.slice (some ⟨w.heap.size, 0, none⟩) 1 1) 1 [u] := Own.rd (own_cells w 23 1 [u] _ rfl rfl (by decide))
end Go.Proofs.Ytapojpjmeadabaa
end

section
/- sacristanlaw08.SealOrder: the ways out. -/
namespace Go.Proofs.Ytapojpjmeadabaa
open Go.RowKit
set_option linter.unusedVariables false
set_option linter.unusedSimpArgs false
attribute [local go_sem] lt_ext cell?_ext frozen?_ext shape?_ext

set_option maxRecDepth 100000 in
set_option maxHeartbeats 4000000 in
theorem sord_key
    (kv lv ov : Value) (key l o : List UInt8) (x : Se) (ct : Nat) (hct : ct < 256) (w : World) (hK : Bs w kv key) (hL : Bs w lv l) (hO : Bs w ov o) (hx : SeR w x) (hx1 : x.sl.length ≤ 140737488355328) (hx2 : x.su.length ≤ 4398046511104)
    (hk : 100 < key.length)
 : Calls Try.prog 25 #[kv, x.v, lv, .int .u8 (ct : Int), ov] w fun e w' => e = .returned (.bool true) ∧ Ext w w' := by
  obtain ⟨Ak, ck, rfl, _, _, _, _⟩ := hK.is
  obtain ⟨Al, cl, rfl, hcl1, hcl2, _, _⟩ := hL.is
  obtain ⟨Ao, co, rfl, hco1, hco2, _, _⟩ := hO.is
  unfold maxLen at hcl2 hco2
  obtain ⟨n1, hn1⟩ : ∃ n, x.sl.length + 32 * x.su.length = n := ⟨_, rfl⟩
  have hn1b : n1 ≤ 1407374883553280 := by omega
  have L1 : Hid (∀ w', Ext w w' → Calls Try.prog 61 #[.agg (seRow x)] w' fun e w'' => e = .returned (.int .i64 (n1 : Int)) ∧ Ext w' w'') := Lib.hid (fun w' h => by have := slong_any x w' (hx.ext h) (by omega) (by omega); rw [hn1] at this; exact this)
  have RA : Hid (∀ w', Ext w w' → Calls Try.prog 62 #[.agg (seRow x)] w' fun e w'' => e = .returned (.bool (rightB x.blk x.sl x.su)) ∧ Ext w' w'') := Lib.hid (fun w' h => rright_any x w' (hx.ext h) hx1)
  have HNA := Lib.hid hn1
  have HK := Lib.hid hK
  have HL := Lib.hid hL
  have HO := Lib.hid hO
  have HX := Lib.hid hx
  have hb6 : At68 (w.alloc (.cells #[.int .u64 (x.num : Int), .int .i64 x.blk, x.sv, x.gv] 68)) w.heap.size (seRow x) := heap_alloc_last w _
  have hx0 : Ext w (w.alloc (.cells #[.int .u64 (x.num : Int), .int .i64 x.blk, x.sv, x.gv] 68)) := (Ext.refl w).alloc _
  have HB6 := Lib.hid hb6
  have HX0 := Lib.hid hx0
  clear hx hn1 hb6 hx0 hK hL hO
  have HDK : Hid (decide (100 < (key.length : Int)) = true) := Lib.hid (decide_eq_true (by omega))
  go_enter Try.func25, Try.ntmps25
  go_wp2_with (first | (refine wpl_v ?_ _ (exec_gtr (.tmp 24) 100 3 rfl (key.length : Int) rfl rfl _ HDK.out _) ?_; rfl) | (exact TQ.elim; refine wpl_v ?_ _ (exec_gtr (.tmp 28) 500 3 rfl (n1 : Int) rfl rfl _ HD1.out _) ?_; rfl) | (exact TQ.elim; refine wpl_v ?_ _ (exec_gtr (.tmp 38) 8 3 rfl (l.length : Int) rfl rfl _ HD2.out _) ?_; rfl) | (clear TX; refine wpl_v ?_ _ (exec_load68 (.tmp 6) rfl w.heap.size rfl _ _ _ _ _ HB6.out) ?_; rfl) | (go_at_call 61; go_must (refine (L1.out _ HX0.out).mono ?_; rintro e w2 ⟨rfl, hx2⟩; have HX2 := Lib.hid (HX0.out.trans hx2); have HC6 := Lib.hid (HB6.out.ext hx2); clear hx2; skip)) | (clear TY; refine wpl_v ?_ _ (exec_load68 (.tmp 6) rfl w.heap.size rfl _ _ _ _ _ HC6.out) ?_; rfl) | (go_at_call 62; go_must (refine (RA.out _ HX2.out).mono ?_; rintro e w3 ⟨rfl, hx3⟩; rw [HR.out]; have HX3 := Lib.hid (HX2.out.trans hx3); have HD6 := Lib.hid (HC6.out.ext hx3); clear hx3)) | (go_at_call 63; go_must (refine (known8_any _).mono ?_; rintro e w9 ⟨rfl, hx9⟩; have HX9 := Lib.hid hx9; clear hx9)))
  go_ret
  exact ⟨rfl, HX0.out.trans HX9.out⟩
set_option maxRecDepth 100000 in
set_option maxHeartbeats 4000000 in
theorem sord_big
    (kv lv ov : Value) (key l o : List UInt8) (x : Se) (ct : Nat) (hct : ct < 256) (w : World) (hK : Bs w kv key) (hL : Bs w lv l) (hO : Bs w ov o) (hx : SeR w x) (hx1 : x.sl.length ≤ 140737488355328) (hx2 : x.su.length ≤ 4398046511104)
    (hk : key.length ≤ 100) (hn : 500 < x.sl.length + 32 * x.su.length)
 : Calls Try.prog 25 #[kv, x.v, lv, .int .u8 (ct : Int), ov] w fun e w' => e = .returned (.bool true) ∧ Ext w w' := by
  obtain ⟨Ak, ck, rfl, _, _, _, _⟩ := hK.is
  obtain ⟨Al, cl, rfl, hcl1, hcl2, _, _⟩ := hL.is
  obtain ⟨Ao, co, rfl, hco1, hco2, _, _⟩ := hO.is
  unfold maxLen at hcl2 hco2
  obtain ⟨n1, hn1⟩ : ∃ n, x.sl.length + 32 * x.su.length = n := ⟨_, rfl⟩
  have hn1b : n1 ≤ 1407374883553280 := by omega
  have L1 : Hid (∀ w', Ext w w' → Calls Try.prog 61 #[.agg (seRow x)] w' fun e w'' => e = .returned (.int .i64 (n1 : Int)) ∧ Ext w' w'') := Lib.hid (fun w' h => by have := slong_any x w' (hx.ext h) (by omega) (by omega); rw [hn1] at this; exact this)
  have RA : Hid (∀ w', Ext w w' → Calls Try.prog 62 #[.agg (seRow x)] w' fun e w'' => e = .returned (.bool (rightB x.blk x.sl x.su)) ∧ Ext w' w'') := Lib.hid (fun w' h => rright_any x w' (hx.ext h) hx1)
  have HNA := Lib.hid hn1
  have HK := Lib.hid hK
  have HL := Lib.hid hL
  have HO := Lib.hid hO
  have HX := Lib.hid hx
  have hb6 : At68 (w.alloc (.cells #[.int .u64 (x.num : Int), .int .i64 x.blk, x.sv, x.gv] 68)) w.heap.size (seRow x) := heap_alloc_last w _
  have hx0 : Ext w (w.alloc (.cells #[.int .u64 (x.num : Int), .int .i64 x.blk, x.sv, x.gv] 68)) := (Ext.refl w).alloc _
  have HB6 := Lib.hid hb6
  have HX0 := Lib.hid hx0
  clear hx hn1 hb6 hx0 hK hL hO
  have HDK : Hid (decide (100 < (key.length : Int)) = false) := Lib.hid (decide_eq_false (by omega))
  have HD1 : Hid (decide (500 < (n1 : Int)) = true) := Lib.hid (decide_eq_true (by have := HNA.out; omega))
  have TX : True := trivial
  go_enter Try.func25, Try.ntmps25
  go_wp2_with (first | (refine wpl_v ?_ _ (exec_gtr (.tmp 24) 100 3 rfl (key.length : Int) rfl rfl _ HDK.out _) ?_; rfl) | (skip; refine wpl_v ?_ _ (exec_gtr (.tmp 28) 500 3 rfl (n1 : Int) rfl rfl _ HD1.out _) ?_; rfl) | (exact TQ.elim; refine wpl_v ?_ _ (exec_gtr (.tmp 38) 8 3 rfl (l.length : Int) rfl rfl _ HD2.out _) ?_; rfl) | (clear TX; refine wpl_v ?_ _ (exec_load68 (.tmp 6) rfl w.heap.size rfl _ _ _ _ _ HB6.out) ?_; rfl) | (go_at_call 61; go_must (refine (L1.out _ HX0.out).mono ?_; rintro e w2 ⟨rfl, hx2⟩; have HX2 := Lib.hid (HX0.out.trans hx2); have HC6 := Lib.hid (HB6.out.ext hx2); clear hx2; skip)) | (clear TY; refine wpl_v ?_ _ (exec_load68 (.tmp 6) rfl w.heap.size rfl _ _ _ _ _ HC6.out) ?_; rfl) | (go_at_call 62; go_must (refine (RA.out _ HX2.out).mono ?_; rintro e w3 ⟨rfl, hx3⟩; rw [HR.out]; have HX3 := Lib.hid (HX2.out.trans hx3); have HD6 := Lib.hid (HC6.out.ext hx3); clear hx3)) | (go_at_call 63; go_must (refine (known8_any _).mono ?_; rintro e w9 ⟨rfl, hx9⟩; have HX9 := Lib.hid hx9; clear hx9)))
  go_ret
  exact ⟨rfl, HX2.out.trans HX9.out⟩
set_option maxRecDepth 100000 in
set_option maxHeartbeats 4000000 in
theorem sord_not
    (kv lv ov : Value) (key l o : List UInt8) (x : Se) (ct : Nat) (hct : ct < 256) (w : World) (hK : Bs w kv key) (hL : Bs w lv l) (hO : Bs w ov o) (hx : SeR w x) (hx1 : x.sl.length ≤ 140737488355328) (hx2 : x.su.length ≤ 4398046511104)
    (hk : key.length ≤ 100) (hn : x.sl.length + 32 * x.su.length ≤ 500) (hr : rightB x.blk x.sl x.su = false)
 : Calls Try.prog 25 #[kv, x.v, lv, .int .u8 (ct : Int), ov] w fun e w' => e = .returned (.bool true) ∧ Ext w w' := by
  obtain ⟨Ak, ck, rfl, _, _, _, _⟩ := hK.is
  obtain ⟨Al, cl, rfl, hcl1, hcl2, _, _⟩ := hL.is
  obtain ⟨Ao, co, rfl, hco1, hco2, _, _⟩ := hO.is
  unfold maxLen at hcl2 hco2
  obtain ⟨n1, hn1⟩ : ∃ n, x.sl.length + 32 * x.su.length = n := ⟨_, rfl⟩
  have hn1b : n1 ≤ 1407374883553280 := by omega
  have L1 : Hid (∀ w', Ext w w' → Calls Try.prog 61 #[.agg (seRow x)] w' fun e w'' => e = .returned (.int .i64 (n1 : Int)) ∧ Ext w' w'') := Lib.hid (fun w' h => by have := slong_any x w' (hx.ext h) (by omega) (by omega); rw [hn1] at this; exact this)
  have RA : Hid (∀ w', Ext w w' → Calls Try.prog 62 #[.agg (seRow x)] w' fun e w'' => e = .returned (.bool (rightB x.blk x.sl x.su)) ∧ Ext w' w'') := Lib.hid (fun w' h => rright_any x w' (hx.ext h) hx1)
  have HNA := Lib.hid hn1
  have HK := Lib.hid hK
  have HL := Lib.hid hL
  have HO := Lib.hid hO
  have HX := Lib.hid hx
  have hb6 : At68 (w.alloc (.cells #[.int .u64 (x.num : Int), .int .i64 x.blk, x.sv, x.gv] 68)) w.heap.size (seRow x) := heap_alloc_last w _
  have hx0 : Ext w (w.alloc (.cells #[.int .u64 (x.num : Int), .int .i64 x.blk, x.sv, x.gv] 68)) := (Ext.refl w).alloc _
  have HB6 := Lib.hid hb6
  have HX0 := Lib.hid hx0
  clear hx hn1 hb6 hx0 hK hL hO
  have HR := Lib.hid hr
  clear hr
  have HDK : Hid (decide (100 < (key.length : Int)) = false) := Lib.hid (decide_eq_false (by omega))
  have HD1 : Hid (decide (500 < (n1 : Int)) = false) := Lib.hid (decide_eq_false (by have := HNA.out; omega))
  have TX : True := trivial
  go_enter Try.func25, Try.ntmps25
  go_wp2_with (first | (refine wpl_v ?_ _ (exec_gtr (.tmp 24) 100 3 rfl (key.length : Int) rfl rfl _ HDK.out _) ?_; rfl) | (skip; refine wpl_v ?_ _ (exec_gtr (.tmp 28) 500 3 rfl (n1 : Int) rfl rfl _ HD1.out _) ?_; rfl) | (exact TQ.elim; refine wpl_v ?_ _ (exec_gtr (.tmp 38) 8 3 rfl (l.length : Int) rfl rfl _ HD2.out _) ?_; rfl) | (clear TX; refine wpl_v ?_ _ (exec_load68 (.tmp 6) rfl w.heap.size rfl _ _ _ _ _ HB6.out) ?_; rfl) | (go_at_call 61; go_must (refine (L1.out _ HX0.out).mono ?_; rintro e w2 ⟨rfl, hx2⟩; have HX2 := Lib.hid (HX0.out.trans hx2); have HC6 := Lib.hid (HB6.out.ext hx2); clear hx2; have TY : True := trivial)) | (clear TY; refine wpl_v ?_ _ (exec_load68 (.tmp 6) rfl w.heap.size rfl _ _ _ _ _ HC6.out) ?_; rfl) | (go_at_call 62; go_must (refine (RA.out _ HX2.out).mono ?_; rintro e w3 ⟨rfl, hx3⟩; rw [HR.out]; have HX3 := Lib.hid (HX2.out.trans hx3); have HD6 := Lib.hid (HC6.out.ext hx3); clear hx3)) | (go_at_call 63; go_must (refine (known8_any _).mono ?_; rintro e w9 ⟨rfl, hx9⟩; have HX9 := Lib.hid hx9; clear hx9)))
  go_ret
  exact ⟨rfl, HX3.out.trans HX9.out⟩
set_option maxRecDepth 100000 in
set_option maxHeartbeats 4000000 in
theorem sord_many
    (kv lv ov : Value) (key l o : List UInt8) (x : Se) (ct : Nat) (hct : ct < 256) (w : World) (hK : Bs w kv key) (hL : Bs w lv l) (hO : Bs w ov o) (hx : SeR w x) (hx1 : x.sl.length ≤ 140737488355328) (hx2 : x.su.length ≤ 4398046511104)
    (hk : key.length ≤ 100) (hn : x.sl.length + 32 * x.su.length ≤ 500) (hr : rightB x.blk x.sl x.su = true) (hm : 8 < l.length)
 : Calls Try.prog 25 #[kv, x.v, lv, .int .u8 (ct : Int), ov] w fun e w' => e = .returned (.bool true) ∧ Ext w w' := by
  obtain ⟨Ak, ck, rfl, _, _, _, _⟩ := hK.is
  obtain ⟨Al, cl, rfl, hcl1, hcl2, _, _⟩ := hL.is
  obtain ⟨Ao, co, rfl, hco1, hco2, _, _⟩ := hO.is
  unfold maxLen at hcl2 hco2
  obtain ⟨n1, hn1⟩ : ∃ n, x.sl.length + 32 * x.su.length = n := ⟨_, rfl⟩
  have hn1b : n1 ≤ 1407374883553280 := by omega
  have L1 : Hid (∀ w', Ext w w' → Calls Try.prog 61 #[.agg (seRow x)] w' fun e w'' => e = .returned (.int .i64 (n1 : Int)) ∧ Ext w' w'') := Lib.hid (fun w' h => by have := slong_any x w' (hx.ext h) (by omega) (by omega); rw [hn1] at this; exact this)
  have RA : Hid (∀ w', Ext w w' → Calls Try.prog 62 #[.agg (seRow x)] w' fun e w'' => e = .returned (.bool (rightB x.blk x.sl x.su)) ∧ Ext w' w'') := Lib.hid (fun w' h => rright_any x w' (hx.ext h) hx1)
  have HNA := Lib.hid hn1
  have HK := Lib.hid hK
  have HL := Lib.hid hL
  have HO := Lib.hid hO
  have HX := Lib.hid hx
  have hb6 : At68 (w.alloc (.cells #[.int .u64 (x.num : Int), .int .i64 x.blk, x.sv, x.gv] 68)) w.heap.size (seRow x) := heap_alloc_last w _
  have hx0 : Ext w (w.alloc (.cells #[.int .u64 (x.num : Int), .int .i64 x.blk, x.sv, x.gv] 68)) := (Ext.refl w).alloc _
  have HB6 := Lib.hid hb6
  have HX0 := Lib.hid hx0
  clear hx hn1 hb6 hx0 hK hL hO
  have HR := Lib.hid hr
  clear hr
  have HDK : Hid (decide (100 < (key.length : Int)) = false) := Lib.hid (decide_eq_false (by omega))
  have HD1 : Hid (decide (500 < (n1 : Int)) = false) := Lib.hid (decide_eq_false (by have := HNA.out; omega))
  have HD2 : Hid (decide (8 < (l.length : Int)) = true) := Lib.hid (decide_eq_true (by omega))
  have TX : True := trivial
  go_enter Try.func25, Try.ntmps25
  go_wp2_with (first | (refine wpl_v ?_ _ (exec_gtr (.tmp 24) 100 3 rfl (key.length : Int) rfl rfl _ HDK.out _) ?_; rfl) | (skip; refine wpl_v ?_ _ (exec_gtr (.tmp 28) 500 3 rfl (n1 : Int) rfl rfl _ HD1.out _) ?_; rfl) | (skip; refine wpl_v ?_ _ (exec_gtr (.tmp 38) 8 3 rfl (l.length : Int) rfl rfl _ HD2.out _) ?_; rfl) | (clear TX; refine wpl_v ?_ _ (exec_load68 (.tmp 6) rfl w.heap.size rfl _ _ _ _ _ HB6.out) ?_; rfl) | (go_at_call 61; go_must (refine (L1.out _ HX0.out).mono ?_; rintro e w2 ⟨rfl, hx2⟩; have HX2 := Lib.hid (HX0.out.trans hx2); have HC6 := Lib.hid (HB6.out.ext hx2); clear hx2; have TY : True := trivial)) | (clear TY; refine wpl_v ?_ _ (exec_load68 (.tmp 6) rfl w.heap.size rfl _ _ _ _ _ HC6.out) ?_; rfl) | (go_at_call 62; go_must (refine (RA.out _ HX2.out).mono ?_; rintro e w3 ⟨rfl, hx3⟩; rw [HR.out]; have HX3 := Lib.hid (HX2.out.trans hx3); have HD6 := Lib.hid (HC6.out.ext hx3); clear hx3)) | (go_at_call 63; go_must (refine (known8_any _).mono ?_; rintro e w9 ⟨rfl, hx9⟩; have HX9 := Lib.hid hx9; clear hx9)))
  go_ret
  exact ⟨rfl, HX3.out.trans HX9.out⟩
set_option maxRecDepth 100000 in
set_option maxHeartbeats 4000000 in
theorem sord_odd
    (kv lv ov : Value) (key l o : List UInt8) (x : Se) (ct : Nat) (hct : ct < 256) (w : World) (hK : Bs w kv key) (hL : Bs w lv l) (hO : Bs w ov o) (hx : SeR w x) (hx1 : x.sl.length ≤ 140737488355328) (hx2 : x.su.length ≤ 4398046511104)
    (hk : key.length ≤ 100) (hn : x.sl.length + 32 * x.su.length ≤ 500) (hr : rightB x.blk x.sl x.su = true) (hm : l.length ≤ 8) (ho : 15 < o.length)
 : Calls Try.prog 25 #[kv, x.v, lv, .int .u8 (ct : Int), ov] w fun e w' => e = .returned (.bool true) ∧ Ext w w' := by
  obtain ⟨Ak, ck, rfl, _, _, _, _⟩ := hK.is
  obtain ⟨Al, cl, rfl, hcl1, hcl2, _, _⟩ := hL.is
  obtain ⟨Ao, co, rfl, hco1, hco2, _, _⟩ := hO.is
  unfold maxLen at hcl2 hco2
  obtain ⟨n1, hn1⟩ : ∃ n, x.sl.length + 32 * x.su.length = n := ⟨_, rfl⟩
  have hn1b : n1 ≤ 1407374883553280 := by omega
  have L1 : Hid (∀ w', Ext w w' → Calls Try.prog 61 #[.agg (seRow x)] w' fun e w'' => e = .returned (.int .i64 (n1 : Int)) ∧ Ext w' w'') := Lib.hid (fun w' h => by have := slong_any x w' (hx.ext h) (by omega) (by omega); rw [hn1] at this; exact this)
  have RA : Hid (∀ w', Ext w w' → Calls Try.prog 62 #[.agg (seRow x)] w' fun e w'' => e = .returned (.bool (rightB x.blk x.sl x.su)) ∧ Ext w' w'') := Lib.hid (fun w' h => rright_any x w' (hx.ext h) hx1)
  have HNA := Lib.hid hn1
  have HK := Lib.hid hK
  have HL := Lib.hid hL
  have HO := Lib.hid hO
  have HX := Lib.hid hx
  have hb6 : At68 (w.alloc (.cells #[.int .u64 (x.num : Int), .int .i64 x.blk, x.sv, x.gv] 68)) w.heap.size (seRow x) := heap_alloc_last w _
  have hx0 : Ext w (w.alloc (.cells #[.int .u64 (x.num : Int), .int .i64 x.blk, x.sv, x.gv] 68)) := (Ext.refl w).alloc _
  have HB6 := Lib.hid hb6
  have HX0 := Lib.hid hx0
  clear hx hn1 hb6 hx0 hK hL hO
  have HR := Lib.hid hr
  clear hr
  have HDK : Hid (decide (100 < (key.length : Int)) = false) := Lib.hid (decide_eq_false (by omega))
  have HD1 : Hid (decide (500 < (n1 : Int)) = false) := Lib.hid (decide_eq_false (by have := HNA.out; omega))
  have HD2 : Hid (decide (8 < (l.length : Int)) = false) := Lib.hid (decide_eq_false (by omega))
  have TX : True := trivial
  go_enter Try.func25, Try.ntmps25
  go_wp2_with (first | (refine wpl_v ?_ _ (exec_gtr (.tmp 24) 100 3 rfl (key.length : Int) rfl rfl _ HDK.out _) ?_; rfl) | (skip; refine wpl_v ?_ _ (exec_gtr (.tmp 28) 500 3 rfl (n1 : Int) rfl rfl _ HD1.out _) ?_; rfl) | (skip; refine wpl_v ?_ _ (exec_gtr (.tmp 38) 8 3 rfl (l.length : Int) rfl rfl _ HD2.out _) ?_; rfl) | (clear TX; refine wpl_v ?_ _ (exec_load68 (.tmp 6) rfl w.heap.size rfl _ _ _ _ _ HB6.out) ?_; rfl) | (go_at_call 61; go_must (refine (L1.out _ HX0.out).mono ?_; rintro e w2 ⟨rfl, hx2⟩; have HX2 := Lib.hid (HX0.out.trans hx2); have HC6 := Lib.hid (HB6.out.ext hx2); clear hx2; have TY : True := trivial)) | (clear TY; refine wpl_v ?_ _ (exec_load68 (.tmp 6) rfl w.heap.size rfl _ _ _ _ _ HC6.out) ?_; rfl) | (go_at_call 62; go_must (refine (RA.out _ HX2.out).mono ?_; rintro e w3 ⟨rfl, hx3⟩; rw [HR.out]; have HX3 := Lib.hid (HX2.out.trans hx3); have HD6 := Lib.hid (HC6.out.ext hx3); clear hx3)) | (go_at_call 63; go_must (refine (known8_any _).mono ?_; rintro e w9 ⟨rfl, hx9⟩; have HX9 := Lib.hid hx9; clear hx9)))
  go_ret
  exact ⟨rfl, HX3.out.trans HX9.out⟩
end Go.Proofs.Ytapojpjmeadabaa
end

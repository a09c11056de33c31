/- Slices of Items; sacristanref05.Long, All. -/
import Derived.Test.YtapojpjmeadabaaRadd
namespace Go.Proofs.Ytapojpjmeadabaa
open Go.RowKit
set_option linter.unusedVariables false
set_option linter.unusedSimpArgs false
attribute [local go_sem] lt_ext cell?_ext frozen?_ext shape?_ext

structure It where
  u : Value
  z : Int
  b : List UInt8
instance : Inhabited It := ⟨⟨undef, 0, []⟩⟩
def itc : List It → List Value
  | [] => []
  | x :: r => .int .i64 x.z :: x.u :: itc r
theorem itc_append : ∀ a b : List It, itc (a ++ b) = itc a ++ itc b
  | [], b => rfl
  | x :: r, b => by simp [itc, itc_append r b]
theorem itc_length : ∀ a : List It, (itc a).length = a.length * 2
  | [] => rfl
  | x :: r => by simp [itc, itc_length r]; omega
theorem itc_get : ∀ (a : List It) (k : Nat), k < a.length → (itc a)[k * 2]? = some (.int .i64 (a.getD k default).z) ∧ (itc a)[k * 2 + 1]? = some (a.getD k default).u
  | [], k, h => absurd h (Nat.not_lt_zero _)
  | x :: r, 0, h => ⟨rfl, rfl⟩
  | x :: r, k + 1, h => by
    have := itc_get r k (by simpa using h)
    rw [show (k + 1) * 2 = k * 2 + 1 + 1 by omega]
    simpa [itc] using this
theorem itc_take : ∀ (a : List It) (k : Nat), itc (a.take k) = (itc a).take (k * 2)
  | [], k => by simp [itc]
  | x :: r, 0 => rfl
  | x :: r, k + 1 => by rw [show (k + 1) * 2 = k * 2 + 1 + 1 by omega]; simp [itc, itc_take r k]
theorem itc_drop : ∀ (a : List It) (k : Nat), itc (a.drop k) = (itc a).drop (k * 2)
  | [], k => by simp [itc]
  | x :: r, 0 => rfl
  | x :: r, k + 1 => by rw [show (k + 1) * 2 = k * 2 + 1 + 1 by omega]; simp [itc, itc_drop r k]
/-- A slice of Items, as it reads. -/
structure Its (w : World) (v : Value) (xs : List It) : Prop where
  rd : Rd w 2 v xs.length (itc xs)
  each : ∀ x ∈ xs, Bs w x.u x.b
theorem Its.ext {w w' : World} {v : Value} {xs : List It} (h : Its w v xs) (hx : Ext w w') : Its w' v xs := ⟨h.rd.ext hx, fun x hm => Rd.ext (h.each x hm) hx⟩
theorem It.mem {xs : List It} {k : Nat} (hk : k < xs.length) : xs.getD k default ∈ xs := by
  rw [List.getD_eq_getElem?_getD, List.getElem?_eq_getElem hk]; exact List.getElem_mem hk
/-- What all come to. -/
def allD (key : List UInt8) (xs : List It) : List UInt8 := xs.foldl (fun d x => addD d (ofD key x.z x.b)) (Sha.zeros 32)
theorem allD_length (key : List UInt8) (xs : List It) : (allD key xs).length = 32 := by
  have h : ∀ (xs : List It) (d : List UInt8), d.length = 32 → (xs.foldl (fun d x => addD d (ofD key x.z x.b)) d).length = 32 := by
    intro xs
    induction xs with
    | nil => intro d hd; exact hd
    | cons x r ih => intro d hd; exact ih _ (addD_length _ _)
  exact h xs _ (by simp [Sha.zeros])
theorem allD_next (key : List UInt8) (xs : List It) (k : Nat) (hk : k < xs.length) :
    allD key (xs.take (k + 1)) = addD (allD key (xs.take k)) (ofD key (xs.getD k default).z (xs.getD k default).b) := by
  unfold allD
  rw [List.take_succ_eq_append_getElem hk, List.foldl_append]
  simp [List.getD, hk]
/-- What reading the k-th Item's cells gives. -/
theorem Its.at_ {w : World} {v : Value} {xs : List It} (h : Its w v xs) (k : Nat) (hk : k < xs.length) :
    ∃ b o cap, v = .slice (some ⟨b, o, none⟩) xs.length cap ∧ b < w.heap.size ∧ w.cell? ⟨b, o + k * 2, none⟩ = some (.int .i64 (xs.getD k default).z) ∧ w.cell? ⟨b, o + k * 2 + 1, none⟩ = some (xs.getD k default).u := by
  obtain ⟨b, o, cap, h1, _, _, h4, h5⟩ := h.rd.pos (by omega)
  obtain ⟨g1, g2⟩ := itc_get xs k hk
  exact ⟨b, o, cap, h1, h4, h5 _ _ g1, by rw [Nat.add_assoc]; exact h5 _ _ g2⟩
/-- How long they are. -/
def longN (xs : List It) : Nat := xs.foldl (fun n x => n + 1 + x.b.length) 0
theorem longN_next (xs : List It) (k : Nat) (hk : k < xs.length) : longN (xs.take (k + 1)) = longN (xs.take k) + 1 + (xs.getD k default).b.length := by
  unfold longN
  rw [List.take_succ_eq_append_getElem hk, List.foldl_append]
  simp [List.getD, hk]
theorem longN_le (xs : List It) (k : Nat) : longN (xs.take k) ≤ longN xs := by
  have h : ∀ (b : List It) (n : Nat), n ≤ b.foldl (fun n x => n + 1 + x.b.length) n := by
    intro b
    induction b with
    | nil => intro n; exact Nat.le_refl _
    | cons x r ih => intro n; exact Nat.le_trans (show n ≤ n + 1 + x.b.length by omega) (ih _)
  conv => rhs; rw [← List.take_append_drop k xs]; unfold longN
  rw [List.foldl_append]
  exact h _ _
theorem longN_each (xs : List It) : ∀ x ∈ xs, x.b.length ≤ longN xs := by
  intro x hx
  obtain ⟨k, hk, rfl⟩ := List.getElem_of_mem hx
  have h1 := longN_next xs k hk
  have h2 := longN_le xs (k + 1)
  simp [List.getD, hk] at h1
  omega
theorem longN_len (xs : List It) : xs.length ≤ longN xs := by
  have h : ∀ (b : List It) (n : Nat), n + b.length ≤ b.foldl (fun n x => n + 1 + x.b.length) n := by
    intro b
    induction b with
    | nil => intro n; exact Nat.le_refl _
    | cons x r ih => intro n; have := ih (n + 1 + x.b.length); simp only [List.length_cons, List.foldl_cons]; omega
  have := h xs 0
  unfold longN
  omega
set_option maxRecDepth 100000 in
set_option maxHeartbeats 1000000 in
theorem long_any (v : Value) (xs : List It) (w : World) (hI : Its w v xs) (hle : longN xs ≤ 4294967296 * 4294967296 / 4) :
    Calls Try.prog 36 #[v] w fun e w' => e = .returned (.int .i64 (longN xs : Int)) ∧ w = w' := by
  obtain ⟨A, cap, rfl, hcap, hcm, _, _⟩ := hI.rd.is
  unfold maxLen at hcm
  have HI := Lib.hid hI
  clear hI
  obtain ⟨n, hn⟩ : ∃ n, longN xs = n := ⟨_, rfl⟩
  have HN := Lib.hid hn
  rw [hn] at hle ⊢
  clear hn
  go_enter Try.func36, Try.ntmps36
  go_wp2
  go_loop [4, 3] (fun i s => ∃ (k m : Nat), k ≤ xs.length ∧ i = .int .i64 k ∧ s = .int .i64 m ∧ m = longN (xs.take k)) (fun i _ => xs.length - (intOf i).toNat)
  case atStart => exact ⟨0, 0, by omega, rfl, rfl, rfl⟩
  case round =>
    obtain ⟨k, m, hk, rfl, rfl, hm⟩ := hrel
    by_cases hlt : k < xs.length
    · obtain ⟨b, o, cap', hA, hbl, hc0, hc1⟩ := HI.out.at_ k hlt
      injection hA with hA1 hA2 hA3
      subst hA1
      subst hA3
      have hN1 := longN_next xs k hlt
      have hle2 := longN_le xs (k + 1)
      have hB := HI.out.each _ (It.mem hlt)
      rw [HN.out, hN1, ← hm] at hle2
      rw [← hm] at hN1
      generalize xs.getD k default = x at *
      obtain ⟨A2, cap2, e2, _⟩ := hB.is
      rw [e2] at hc1
      have HN1 := Lib.hid hN1
      clear hB e2 hN1 hm
      go_wp2
      go_round
      case rel => exact ⟨k + 1, m + 1 + x.b.length, by omega, by go_num, by go_num, HN1.out.symm⟩
      case measure => simp [intOf]; omega
    · obtain rfl : k = xs.length := by omega
      rw [List.take_length, HN.out] at hm
      subst hm
      go_wp2
      go_ret
      exact ⟨rfl, rfl⟩
set_option maxRecDepth 100000 in
set_option maxHeartbeats 1000000 in
theorem rall_any (kv v : Value) (key : List UInt8) (xs : List It) (w : World) (hK : Bs w kv key) (hI : Its w v xs) (hk : key.length ≤ 2147483648) (hb : ∀ x ∈ xs, x.b.length ≤ 1073741000) :
    Calls Try.prog 58 #[kv, v] w fun e w' => e = .returned (Dig (allD key xs)) ∧ Ext w w' := by
  obtain ⟨A, cap, rfl, hcap, hcm, _, _⟩ := hI.rd.is
  unfold maxLen at hcm
  have HI := Lib.hid hI
  have HK := Lib.hid hK
  have HBL := Lib.hid hb
  clear hI hK hb
  obtain ⟨D, hD⟩ : ∃ D, allD key xs = D := ⟨_, rfl⟩
  have HD := Lib.hid hD
  have HDl : Hid (D.length = 32) := Lib.hid (by rw [← hD]; exact allD_length _ _)
  rw [hD]
  clear hD
  have TA : True := trivial
  go_enter Try.func58, Try.ntmps58
  go_wp2_with (first | (clear TA; refine wpl_exec rfl (Dig (Sha.zeros 32)) (exec_build27 rfl _) ?_; have hr : Blk (w.alloc (.cells (row8 (Sha.zeros 32)) 27)) w.heap.size 27 (Sha.zeros 32) := heap_alloc_last w _; have hx0 : Ext w (w.alloc (.cells (row8 (Sha.zeros 32)) 27)) := (Ext.refl w).alloc _; have hs0 : (w.alloc (.cells (row8 (Sha.zeros 32)) 27)).heap.size = w.heap.size + 1 := (by simp); generalize w.alloc (.cells (row8 (Sha.zeros 32)) 27) = w0 at *; have HR := Lib.hid hr; have HX := Lib.hid hx0; have HS := Lib.hid hs0; clear hr hx0 hs0) | (refine wpl_alloc_agg rfl 27 rfl _ zero27.1 ?_) | (refine wpl_store27 rfl _ _ rfl w0.heap.size (Sha.zeros 32) (Sha.zeros 32) rfl rfl (by simp [Sha.zeros]) (by simp [Sha.zeros]) (heap_alloc_last w0 _) ?_; intro w2 h2 hu2; have H2 := Lib.hid h2; have HX2 := Lib.hid (((Ext.refl w0).alloc _).upd_new hu2 (Nat.le_refl _)); clear h2 hu2))
  have HR2 := Lib.hid (Blk.ext HR.out HX2.out)
  have HXX := Lib.hid (HX.out.trans HX2.out)
  rw [HS.out] at H2 ⊢
  clear HR HX HX2 HS w0
  go_loopw [6] (fun i wr => ∃ k : Nat, k ≤ xs.length ∧ i = .int .i64 k ∧ Blk wr w.heap.size 27 (Sha.zeros 32) ∧ Blk wr (w.heap.size + 1) 27 (allD key (xs.take k)) ∧ Ext w wr) (fun i _ => xs.length - (intOf i).toNat)
  case atStart => exact ⟨0, by omega, rfl, HR2.out, H2.out, HXX.out⟩
  case round =>
    obtain ⟨k, hk1, rfl, hR, hO, hx⟩ := hrel
    clear HR2 H2 HXX w2
    have HR := Lib.hid hR
    have HO := Lib.hid hO
    have HX := Lib.hid hx
    have hl := hO.lt
    clear hR hO hx
    by_cases hlt : k < xs.length
    · have hIx := HI.out.ext HX.out
      obtain ⟨b, o, cap', hA, hbl, hc0, hc1⟩ := hIx.at_ k hlt
      injection hA with hA1 hA2 hA3
      subst hA1
      subst hA3
      have hB := hIx.each _ (It.mem hlt)
      have hbl1 := HBL.out _ (It.mem hlt)
      have HNX := Lib.hid (allD_next key xs k hlt)
      generalize xs.getD k default = x at *
      have HB := Lib.hid hB
      obtain ⟨T, hT⟩ : ∃ T, allD key (xs.take k) = T := ⟨_, rfl⟩
      have HTl : Hid (T.length = 32) := Lib.hid (by rw [← hT]; exact allD_length _ _)
      rw [hT] at HO HNX
      clear hB hT hIx
      go_wp2
      refine wp_region_mt 14 (by kernel_rfl) (by kernel_rfl) ?_
      try simp only [Act.put, List.setIfInBounds_toArray, List.set_cons_succ, List.set_cons_zero]
      simp only [List.take_succ_cons, List.take_zero]
      refine gx rfl rfl rfl rfl (Dig T) (fun y => exec_load27 (.tmp 5) rfl (w.heap.size + 1) rfl T HTl.out _ (Blk.ext HO.out (ext_ext wr y))) ?_
      simp only [Act.put, List.setIfInBounds_toArray, List.set_cons_succ, List.set_cons_zero]
      repeat (refine gq rfl rfl rfl rfl (fun K hK => ?_); go_big_quiet_op; refine hK _ ?_; clear hK K)
      refine gc rfl rfl rfl rfl 56 #[kv, .int .i64 x.z, x.u] (fun _ => by go_simp) (Dig (ofD key x.z x.b)) (fun y => rof_any kv x.u key x.b x.z _ (Rd.ext HK.out (HX.out.trans (ext_ext wr y))) (Rd.ext HB.out (ext_ext wr y)) hk hbl1) ?_
      simp only [Act.put, List.setIfInBounds_toArray, List.set_cons_succ, List.set_cons_zero]
      refine gc rfl rfl rfl rfl 98 #[Dig T, Dig (ofD key x.z x.b)] (fun _ => by go_simp) (Dig (addD T (ofD key x.z x.b))) (fun y => radd_any T (ofD key x.z x.b) HTl.out (ofD_length _ _ _) _) ?_
      simp only [Act.put, List.setIfInBounds_toArray, List.set_cons_succ, List.set_cons_zero]
      refine gm_end_at rfl [] rfl (fun xs' y hk' => ?_)
      clear hk'
      simp only [fillM, Act.put, List.setIfInBounds_toArray, List.set_cons_succ, List.set_cons_zero]
      simp only [List.drop_succ_cons, List.drop_zero]
      have hxy : Ext wr (wr.ext y) := ext_ext wr y
      generalize wr.ext y = wy at *
      have HRy := Lib.hid (Blk.ext HR.out hxy)
      have HXy := Lib.hid (HX.out.trans hxy)
      refine wpl_store27 rfl _ _ rfl (w.heap.size + 1) (addD T (ofD key x.z x.b)) T rfl rfl (addD_length _ _) HTl.out (Blk.ext HO.out hxy) ?_
      intro w3 h3 hu3
      rw [← HNX.out] at h3
      have H3 := Lib.hid h3
      have HU3 := Lib.hid hu3
      clear h3 hu3 hxy
      go_wp2
      go_roundw
      case rel => exact ⟨k + 1, by omega, by go_num, (HU3.out.old HRy.out.lt (by omega)).trans HRy.out, H3.out, HXy.out.upd_new HU3.out (by omega)⟩
      case measure => simp [intOf]; omega
    · obtain rfl : k = xs.length := by omega
      rw [List.take_length, HD.out] at HO
      go_wp2_with (first | (refine wpl_load27 rfl _ rfl (w.heap.size + 1) rfl D HDl.out HO.out ?_) | (refine wpl_store27 rfl _ _ rfl w.heap.size D (Sha.zeros 32) rfl rfl HDl.out (by simp [Sha.zeros]) HR.out ?_; intro w8 h8 hu8; have H8 := Lib.hid h8; have HX8 := Lib.hid (HX.out.upd_new hu8 (Nat.le_refl _)); clear h8 hu8))
      exact ret27 rfl w.heap.size D HDl.out rfl H8.out rfl ⟨rfl, HX8.out⟩
end Go.Proofs.Ytapojpjmeadabaa

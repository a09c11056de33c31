/- Sdec, Law9: several texts in one. -/
import Derived.Test.YtapojpjmeadabaaZCho3
import Derived.Test.YtapojpjmeadabaaZLaw8
section
/- sacristanlaw08.SealDecodes. -/
namespace Go.Proofs.Ytapojpjmeadabaa
open Go.RowKit
set_option linter.unusedVariables false
set_option linter.unusedSimpArgs false
attribute [local go_sem] lt_ext cell?_ext frozen?_ext shape?_ext

theorem says_same {o : Option (List UInt8)} {x y : Se} {c c' : Int} (h : Says o x c) (h' : Says o y c') : c' = c ∧ sameB x y = true := by
  rcases h with ⟨b, sv, gv, rfl, rfl, rfl⟩ | ⟨rfl, rfl, rfl⟩
  · rcases h' with ⟨b', sv', gv', e, rfl, rfl⟩ | ⟨e, _, _⟩
    · injection e with e
      subst e
      exact ⟨rfl, by simp [sameB, mkSe]⟩
    · cases e
  · rcases h' with ⟨b', sv', gv', e, _, _⟩ | ⟨_, rfl, rfl⟩
    · cases e
    · exact ⟨rfl, by simp [sameB, Se0]⟩
theorem says_long {o : Option (List UInt8)} {x : Se} {c : Int} (h : Says o x c) : x.su.length ≤ 140737488355328 := by
  rcases h with ⟨b, sv, gv, rfl, rfl, rfl⟩ | ⟨rfl, rfl, rfl⟩
  · show (gsu b).length ≤ _
    unfold gsu
    rw [chunk_length]
    unfold fparts fN
    have h1 := spell_lt ((b.take 16).drop 12)
    have h2 : ((b.take 16).drop 12).length ≤ 4 := by rw [List.length_drop, List.length_take]; omega
    have h3 : 256 ^ ((b.take 16).drop 12).length ≤ 256 ^ 4 := Nat.pow_le_pow_right (by decide) h2
    omega
  · decide
theorem both_decode (kv u : Value) (key b : List UInt8) (w : World) (hU : Bs w u b) (hK : Bs w kv key) (hk0 : key.length ≤ 2147483648) (hb : b.length ≤ 1073741824) :
    ∃ o : Option (List UInt8), ∃ c : Int, (∀ w', Ext w w' → Calls Try.prog 68 #[kv, u] w' fun e w'' => ∃ x, e = .returned (.tuple #[x.v, .int .i64 c]) ∧ SeR w'' x ∧ Ext w' w'' ∧ Says o x c) ∧ (∀ w', Ext w w' → Calls Try.prog 70 #[kv, u] w' fun e w'' => ∃ x, e = .returned (.tuple #[x.v, .int .i64 c]) ∧ SeR w'' x ∧ Ext w' w'' ∧ Says o x c) := by
  cases hg : good key b with
  | true =>
    exact ⟨some b, 0, fun w' h => (decode_good kv u key b w' (Rd.ext hU h) (Rd.ext hK h) hk0 hb hg).mono fun e w'' ⟨sv, gv, h1, h2, h3⟩ => ⟨_, h1, h2, h3, .inl ⟨b, sv, gv, rfl, rfl, rfl⟩⟩,
      fun w' h => (rdecode_good kv u key b w' (Rd.ext hU h) (Rd.ext hK h) hk0 hb hg).mono fun e w'' ⟨sv, gv, h1, h2, h3⟩ => ⟨_, h1, h2, h3, .inl ⟨b, sv, gv, rfl, rfl, rfl⟩⟩⟩
  | false =>
    exact ⟨none, 5, fun w' h => (decode_bad kv u key b w' (Rd.ext hU h) (Rd.ext hK h) hk0 hb hg).mono fun e w'' ⟨h1, h3⟩ => ⟨Se0, h1, se0_r _, h3, .inr ⟨rfl, rfl, rfl⟩⟩,
      fun w' h => (rdecode_bad kv u key b w' (Rd.ext hU h) (Rd.ext hK h) hk0 hb hg).mono fun e w'' ⟨h1, h3⟩ => ⟨Se0, h1, se0_r _, h3, .inr ⟨rfl, rfl, rfl⟩⟩⟩
theorem both_parts (n : Int) (hn : n ≤ 100000) : ∃ p : Int, (∀ w, Calls Try.prog 65 #[.int .i64 n] w fun e w' => e = .returned (.int .i64 p) ∧ w = w') ∧ (∀ w, Calls Try.prog 73 #[.int .i64 n] w fun e w' => e = .returned (.int .i64 p) ∧ w = w') := by
  by_cases h : n ≤ 0
  · exact ⟨0, fun w => parts_neg n h w, fun w => rparts_neg n h w⟩
  · obtain ⟨k, rfl⟩ : ∃ k : Nat, n = k := ⟨n.toNat, by omega⟩
    exact ⟨(((k + 15) / 16 : Nat) : Int), fun w => parts_nat k _ (by omega) rfl w, fun w => rparts_nat k _ (by omega) rfl w⟩
def lens (ls : List (List UInt8)) : Nat := (ls.map List.length).sum
theorem lens_next (ls : List (List UInt8)) (k : Nat) (hk : k < ls.length) : lens (ls.take (k + 1)) = lens (ls.take k) + (ls.getD k []).length := by
  unfold lens
  rw [take_snoc_d ls k hk, List.map_append, List.sum_append]
  simp
theorem lens_le (ls : List (List UInt8)) (B : Nat) (h : ∀ b ∈ ls, b.length ≤ B) : lens ls ≤ ls.length * B := by
  unfold lens
  induction ls with
  | nil => simp
  | cons b r ih =>
    have h1 := h b (by simp)
    have h2 := ih (fun c hc => h c (by simp [hc]))
    simp only [List.map_cons, List.sum_cons, List.length_cons, Nat.add_mul]
    omega
theorem lens_each (ls : List (List UInt8)) : ∀ b ∈ ls, b.length ≤ lens ls := by
  unfold lens
  induction ls with
  | nil => intro b hb; cases hb
  | cons c r ih =>
    intro b hb
    simp only [List.map_cons, List.sum_cons]
    rcases List.mem_cons.1 hb with rfl | hb
    · omega
    · have := ih b hb
      omega
set_option maxRecDepth 100000 in
set_option maxHeartbeats 4000000 in
theorem sdec_many (kv lv : Value) (key : List UInt8) (ct : Nat) (vs : List Value) (ls : List (List UInt8)) (n : Int) (w : World) (hK : Bs w kv key) (hL : Rss w lv vs ls) (hm : 10 < ls.length) :
    Calls Try.prog 23 #[kv, .int .u64 (ct : Int), lv, .int .i64 n] w fun e w' => e = .returned (.bool true) ∧ Ext w w' := by
  obtain ⟨Ak, ck, rfl, _, _, _, _⟩ := hK.is
  obtain ⟨A, cap, rfl, hcap, hcm, _, _⟩ := hL.rd.is
  have hlm : ls.length ≤ maxLen := Nat.le_trans hcap hcm
  unfold maxLen at hlm
  have HL := Lib.hid hL
  have HK := Lib.hid hK
  clear hL hK
  go_enter Try.func23, Try.ntmps23
  go_wp2
  go_loopw [10, 9] (fun i s wr => ∃ (k : Nat) (K : Int), k ≤ ls.length ∧ i = .int .i64 k ∧ s = .int .i64 K ∧ Ext w wr) (fun i _ _ => ls.length - (intOf i).toNat)
  case atStart => exact ⟨0, 0, by omega, rfl, rfl, Ext.refl w⟩
  case round =>
    obtain ⟨k, K, hk, rfl, rfl, hx⟩ := hrel
    have HX := Lib.hid hx
    clear hx
    by_cases hlt : k < ls.length
    · skip
      obtain ⟨b0, o, cap', hA, _, _, hbl, hcell⟩ := HL.out.rd.pos (by omega)
      injection hA with hA1 hA2 hA3
      subst hA1
      subst hA3
      obtain ⟨u, hu, hub⟩ := HL.out.each k hlt
      have hc := (HX.out.cell b0 (o + k) hbl).trans (hcell k u hu)
      obtain ⟨Au, cu, eu, _, _, _, _⟩ := hub.is
      rw [eu] at hc
      clear hu hub hcell eu
      go_wp2
      go_roundw
      case rel => exact ⟨k + 1, _, by omega, by go_num, rfl, HX.out⟩
      case measure => (simp [intOf] <;> omega)
    · obtain rfl : k = ls.length := by omega
      by_cases hk1 : 100 < key.length
      · go_wp2_with
          (go_at_call 63; go_must (refine (known8_any _).mono ?_; rintro e w9 ⟨rfl, hx9⟩; have HX9 := Lib.hid hx9; clear hx9))
        go_ret
        exact ⟨rfl, HX.out.trans HX9.out⟩
      · go_wp2_with
          (go_at_call 63; go_must (refine (known8_any _).mono ?_; rintro e w9 ⟨rfl, hx9⟩; have HX9 := Lib.hid hx9; clear hx9))
        go_ret
        exact ⟨rfl, HX.out.trans HX9.out⟩
set_option maxRecDepth 100000 in
set_option maxHeartbeats 4000000 in
theorem sdec_key
    (kv lv : Value) (key : List UInt8) (ct : Nat) (vs : List Value) (ls : List (List UInt8)) (n : Int) (w : World) (hK : Bs w kv key) (hL : Rss w lv vs ls) (hb : ∀ b ∈ ls, b.length ≤ 140737488355328) (hten : ls.length ≤ 10)
    (hk : 100 < key.length) : Calls Try.prog 23 #[kv, .int .u64 (ct : Int), lv, .int .i64 n] w fun e w' => e = .returned (.bool true) ∧ Ext w w' := by
  obtain ⟨Ak, ck, rfl, _, _, _, _⟩ := hK.is
  obtain ⟨A, cap, rfl, hcap, hcm, _, _⟩ := hL.rd.is
  have hlm : ls.length ≤ maxLen := Nat.le_trans hcap hcm
  unfold maxLen at hlm
  have HL := Lib.hid hL
  have HK := Lib.hid hK
  clear hL hK
  have HB := Lib.hid hb
  obtain ⟨S, hS⟩ : ∃ S, lens ls = S := ⟨_, rfl⟩
  have HS := Lib.hid hS
  clear hb hS
  skip
  go_enter Try.func23, Try.ntmps23
  go_wp2
  go_loopw [10, 9] (fun i s wr => ∃ k : Nat, k ≤ ls.length ∧ i = .int .i64 k ∧ s = .int .i64 ((lens (ls.take k) : Nat) : Int) ∧ Ext w wr) (fun i _ _ => ls.length - (intOf i).toNat)
  case atStart => exact ⟨0, by omega, rfl, rfl, Ext.refl w⟩
  case round =>
    obtain ⟨k, hk, rfl, rfl, hx⟩ := hrel
    have HX := Lib.hid hx
    have hle0 : lens (ls.take k) ≤ 10 * 140737488355328 := by
      have := lens_le (ls.take k) 140737488355328 (fun b hb => HB.out b (List.mem_of_mem_take hb))
      have h2 : (ls.take k).length ≤ 10 := by rw [List.length_take]; omega
      exact Nat.le_trans this (Nat.mul_le_mul_right _ h2)
    have hle : lens (ls.take k) ≤ 1407374883553280 := hle0
    clear hx hle0
    by_cases hlt : k < ls.length
    · skip
      obtain ⟨b0, o, cap', hA, _, _, hbl, hcell⟩ := HL.out.rd.pos (by omega)
      injection hA with hA1 hA2 hA3
      subst hA1
      subst hA3
      obtain ⟨u, hu, hub⟩ := HL.out.each k hlt
      have hc := (HX.out.cell b0 (o + k) hbl).trans (hcell k u hu)
      obtain ⟨Au, cu, eu, _, _, _, _⟩ := hub.is
      rw [eu] at hc
      have hln := lens_next ls k hlt
      have hbb : (ls.getD k []).length ≤ 140737488355328 := by
        have : ls.getD k [] = ls[k] := by simp [List.getD, hlt]
        rw [this]; exact HB.out _ (List.getElem_mem hlt)
      obtain ⟨m, hm⟩ : ∃ m, (ls.getD k []).length = m := ⟨_, rfl⟩
      obtain ⟨s0, hs0⟩ : ∃ s, lens (ls.take k) = s := ⟨_, rfl⟩
      rw [hm] at hbb hc hln
      rw [hs0] at hle hln
      rw [hs0]
      have HLN := Lib.hid hln
      clear hu hub hcell eu hm hs0 hln
      go_wp2
      go_roundw
      case rel => exact ⟨k + 1, by omega, by go_num, congrArg (Value.int .i64) (by rw [HLN.out]; omega), HX.out⟩
      case measure => (simp [intOf] <;> omega)
    · obtain rfl : k = ls.length := by omega
      rw [List.take_length] at hle ⊢
      rw [HS.out] at hle ⊢
      go_wp2_with
          (go_at_call 63; go_must (refine (known8_any _).mono ?_; rintro e w9 ⟨rfl, hx9⟩; have HX9 := Lib.hid hx9; clear hx9))
      go_ret
      exact ⟨rfl, HX.out.trans HX9.out⟩
set_option maxRecDepth 100000 in
set_option maxHeartbeats 4000000 in
theorem sdec_big
    (kv lv : Value) (key : List UInt8) (ct : Nat) (vs : List Value) (ls : List (List UInt8)) (n : Int) (w : World) (hK : Bs w kv key) (hL : Rss w lv vs ls) (hb : ∀ b ∈ ls, b.length ≤ 140737488355328) (hten : ls.length ≤ 10)
    (hk : key.length ≤ 100) (hs : 2000 < lens ls) : Calls Try.prog 23 #[kv, .int .u64 (ct : Int), lv, .int .i64 n] w fun e w' => e = .returned (.bool true) ∧ Ext w w' := by
  obtain ⟨Ak, ck, rfl, _, _, _, _⟩ := hK.is
  obtain ⟨A, cap, rfl, hcap, hcm, _, _⟩ := hL.rd.is
  have hlm : ls.length ≤ maxLen := Nat.le_trans hcap hcm
  unfold maxLen at hlm
  have HL := Lib.hid hL
  have HK := Lib.hid hK
  clear hL hK
  have HB := Lib.hid hb
  obtain ⟨S, hS⟩ : ∃ S, lens ls = S := ⟨_, rfl⟩
  have HS := Lib.hid hS
  clear hb hS
  rw [HS.out] at hs
  go_enter Try.func23, Try.ntmps23
  go_wp2
  go_loopw [10, 9] (fun i s wr => ∃ k : Nat, k ≤ ls.length ∧ i = .int .i64 k ∧ s = .int .i64 ((lens (ls.take k) : Nat) : Int) ∧ Ext w wr) (fun i _ _ => ls.length - (intOf i).toNat)
  case atStart => exact ⟨0, by omega, rfl, rfl, Ext.refl w⟩
  case round =>
    obtain ⟨k, hk, rfl, rfl, hx⟩ := hrel
    have HX := Lib.hid hx
    have hle0 : lens (ls.take k) ≤ 10 * 140737488355328 := by
      have := lens_le (ls.take k) 140737488355328 (fun b hb => HB.out b (List.mem_of_mem_take hb))
      have h2 : (ls.take k).length ≤ 10 := by rw [List.length_take]; omega
      exact Nat.le_trans this (Nat.mul_le_mul_right _ h2)
    have hle : lens (ls.take k) ≤ 1407374883553280 := hle0
    clear hx hle0
    by_cases hlt : k < ls.length
    · skip
      obtain ⟨b0, o, cap', hA, _, _, hbl, hcell⟩ := HL.out.rd.pos (by omega)
      injection hA with hA1 hA2 hA3
      subst hA1
      subst hA3
      obtain ⟨u, hu, hub⟩ := HL.out.each k hlt
      have hc := (HX.out.cell b0 (o + k) hbl).trans (hcell k u hu)
      obtain ⟨Au, cu, eu, _, _, _, _⟩ := hub.is
      rw [eu] at hc
      have hln := lens_next ls k hlt
      have hbb : (ls.getD k []).length ≤ 140737488355328 := by
        have : ls.getD k [] = ls[k] := by simp [List.getD, hlt]
        rw [this]; exact HB.out _ (List.getElem_mem hlt)
      obtain ⟨m, hm⟩ : ∃ m, (ls.getD k []).length = m := ⟨_, rfl⟩
      obtain ⟨s0, hs0⟩ : ∃ s, lens (ls.take k) = s := ⟨_, rfl⟩
      rw [hm] at hbb hc hln
      rw [hs0] at hle hln
      rw [hs0]
      have HLN := Lib.hid hln
      clear hu hub hcell eu hm hs0 hln
      go_wp2
      go_roundw
      case rel => exact ⟨k + 1, by omega, by go_num, congrArg (Value.int .i64) (by rw [HLN.out]; omega), HX.out⟩
      case measure => (simp [intOf] <;> omega)
    · obtain rfl : k = ls.length := by omega
      rw [List.take_length] at hle ⊢
      rw [HS.out] at hle ⊢
      go_wp2_with
          (go_at_call 63; go_must (refine (known8_any _).mono ?_; rintro e w9 ⟨rfl, hx9⟩; have HX9 := Lib.hid hx9; clear hx9))
      go_ret
      exact ⟨rfl, HX.out.trans HX9.out⟩
set_option maxRecDepth 100000 in
set_option maxHeartbeats 4000000 in
theorem sdec_n
    (kv lv : Value) (key : List UInt8) (ct : Nat) (vs : List Value) (ls : List (List UInt8)) (n : Int) (w : World) (hK : Bs w kv key) (hL : Rss w lv vs ls) (hb : ∀ b ∈ ls, b.length ≤ 140737488355328) (hten : ls.length ≤ 10)
    (hk : key.length ≤ 100) (hs : lens ls ≤ 2000) (hn : 100000 < n) : Calls Try.prog 23 #[kv, .int .u64 (ct : Int), lv, .int .i64 n] w fun e w' => e = .returned (.bool true) ∧ Ext w w' := by
  obtain ⟨Ak, ck, rfl, _, _, _, _⟩ := hK.is
  obtain ⟨A, cap, rfl, hcap, hcm, _, _⟩ := hL.rd.is
  have hlm : ls.length ≤ maxLen := Nat.le_trans hcap hcm
  unfold maxLen at hlm
  have HL := Lib.hid hL
  have HK := Lib.hid hK
  clear hL hK
  have HB := Lib.hid hb
  obtain ⟨S, hS⟩ : ∃ S, lens ls = S := ⟨_, rfl⟩
  have HS := Lib.hid hS
  clear hb hS
  rw [HS.out] at hs
  go_enter Try.func23, Try.ntmps23
  go_wp2
  go_loopw [10, 9] (fun i s wr => ∃ k : Nat, k ≤ ls.length ∧ i = .int .i64 k ∧ s = .int .i64 ((lens (ls.take k) : Nat) : Int) ∧ Ext w wr) (fun i _ _ => ls.length - (intOf i).toNat)
  case atStart => exact ⟨0, by omega, rfl, rfl, Ext.refl w⟩
  case round =>
    obtain ⟨k, hk, rfl, rfl, hx⟩ := hrel
    have HX := Lib.hid hx
    have hle0 : lens (ls.take k) ≤ 10 * 140737488355328 := by
      have := lens_le (ls.take k) 140737488355328 (fun b hb => HB.out b (List.mem_of_mem_take hb))
      have h2 : (ls.take k).length ≤ 10 := by rw [List.length_take]; omega
      exact Nat.le_trans this (Nat.mul_le_mul_right _ h2)
    have hle : lens (ls.take k) ≤ 1407374883553280 := hle0
    clear hx hle0
    by_cases hlt : k < ls.length
    · skip
      obtain ⟨b0, o, cap', hA, _, _, hbl, hcell⟩ := HL.out.rd.pos (by omega)
      injection hA with hA1 hA2 hA3
      subst hA1
      subst hA3
      obtain ⟨u, hu, hub⟩ := HL.out.each k hlt
      have hc := (HX.out.cell b0 (o + k) hbl).trans (hcell k u hu)
      obtain ⟨Au, cu, eu, _, _, _, _⟩ := hub.is
      rw [eu] at hc
      have hln := lens_next ls k hlt
      have hbb : (ls.getD k []).length ≤ 140737488355328 := by
        have : ls.getD k [] = ls[k] := by simp [List.getD, hlt]
        rw [this]; exact HB.out _ (List.getElem_mem hlt)
      obtain ⟨m, hm⟩ : ∃ m, (ls.getD k []).length = m := ⟨_, rfl⟩
      obtain ⟨s0, hs0⟩ : ∃ s, lens (ls.take k) = s := ⟨_, rfl⟩
      rw [hm] at hbb hc hln
      rw [hs0] at hle hln
      rw [hs0]
      have HLN := Lib.hid hln
      clear hu hub hcell eu hm hs0 hln
      go_wp2
      go_roundw
      case rel => exact ⟨k + 1, by omega, by go_num, congrArg (Value.int .i64) (by rw [HLN.out]; omega), HX.out⟩
      case measure => (simp [intOf] <;> omega)
    · obtain rfl : k = ls.length := by omega
      rw [List.take_length] at hle ⊢
      rw [HS.out] at hle ⊢
      go_wp2_with
          (go_at_call 63; go_must (refine (known8_any _).mono ?_; rintro e w9 ⟨rfl, hx9⟩; have HX9 := Lib.hid hx9; clear hx9))
      go_ret
      exact ⟨rfl, HX.out.trans HX9.out⟩
set_option maxRecDepth 100000 in
set_option maxHeartbeats 8000000 in
theorem sdec_good
    (kv lv : Value) (key : List UInt8) (ct : Nat) (vs : List Value) (ls : List (List UInt8)) (n : Int) (w : World) (hK : Bs w kv key) (hL : Rss w lv vs ls) (hb : ∀ b ∈ ls, b.length ≤ 140737488355328) (hten : ls.length ≤ 10)
    (hct : ct ≤ 18446744073709551615) (hk : key.length ≤ 100) (hs : lens ls ≤ 2000) (hn : n ≤ 100000) : Calls Try.prog 23 #[kv, .int .u64 (ct : Int), lv, .int .i64 n] w fun e w' => e = .returned (.bool true) ∧ Ext w w' := by
  obtain ⟨p, hp1, hp2⟩ := both_parts n hn
  have hsmall : ∀ b ∈ ls, b.length ≤ 1073741824 := fun b hb => Nat.le_trans (lens_each ls b hb) (by omega)
  have HP1 := Lib.hid hp1
  have HP2 := Lib.hid hp2
  have HSM := Lib.hid hsmall
  clear hp1 hp2 hsmall
  obtain ⟨Ak, ck, rfl, _, _, _, _⟩ := hK.is
  obtain ⟨A, cap, rfl, hcap, hcm, _, _⟩ := hL.rd.is
  have hlm : ls.length ≤ maxLen := Nat.le_trans hcap hcm
  unfold maxLen at hlm
  have HL := Lib.hid hL
  have HK := Lib.hid hK
  clear hL hK
  have HB := Lib.hid hb
  obtain ⟨S, hS⟩ : ∃ S, lens ls = S := ⟨_, rfl⟩
  have HS := Lib.hid hS
  clear hb hS
  rw [HS.out] at hs
  go_enter Try.func23, Try.ntmps23
  go_wp2
  go_loopw [10, 9] (fun i s wr => ∃ k : Nat, k ≤ ls.length ∧ i = .int .i64 k ∧ s = .int .i64 ((lens (ls.take k) : Nat) : Int) ∧ Ext w wr) (fun i _ _ => ls.length - (intOf i).toNat)
  case atStart => exact ⟨0, by omega, rfl, rfl, Ext.refl w⟩
  case round =>
    obtain ⟨k, hk, rfl, rfl, hx⟩ := hrel
    have HX := Lib.hid hx
    have hle0 : lens (ls.take k) ≤ 10 * 140737488355328 := by
      have := lens_le (ls.take k) 140737488355328 (fun b hb => HB.out b (List.mem_of_mem_take hb))
      have h2 : (ls.take k).length ≤ 10 := by rw [List.length_take]; omega
      exact Nat.le_trans this (Nat.mul_le_mul_right _ h2)
    have hle : lens (ls.take k) ≤ 1407374883553280 := hle0
    clear hx hle0
    by_cases hlt : k < ls.length
    · skip
      obtain ⟨b0, o, cap', hA, _, _, hbl, hcell⟩ := HL.out.rd.pos (by omega)
      injection hA with hA1 hA2 hA3
      subst hA1
      subst hA3
      obtain ⟨u, hu, hub⟩ := HL.out.each k hlt
      have hc := (HX.out.cell b0 (o + k) hbl).trans (hcell k u hu)
      obtain ⟨Au, cu, eu, _, _, _, _⟩ := hub.is
      rw [eu] at hc
      have hln := lens_next ls k hlt
      have hbb : (ls.getD k []).length ≤ 140737488355328 := by
        have : ls.getD k [] = ls[k] := by simp [List.getD, hlt]
        rw [this]; exact HB.out _ (List.getElem_mem hlt)
      obtain ⟨m, hm⟩ : ∃ m, (ls.getD k []).length = m := ⟨_, rfl⟩
      obtain ⟨s0, hs0⟩ : ∃ s, lens (ls.take k) = s := ⟨_, rfl⟩
      rw [hm] at hbb hc hln
      rw [hs0] at hle hln
      rw [hs0]
      have HLN := Lib.hid hln
      clear hu hub hcell eu hm hs0 hln
      go_wp2
      go_roundw
      case rel => exact ⟨k + 1, by omega, by go_num, congrArg (Value.int .i64) (by rw [HLN.out]; omega), HX.out⟩
      case measure => (simp [intOf] <;> omega)
    · obtain rfl : k = ls.length := by omega
      rw [List.take_length] at hle ⊢
      rw [HS.out] at hle ⊢
      go_wp2
      go_loopw [11] (fun i wr => ∃ j : Nat, j ≤ ls.length ∧ i = .int .i64 j ∧ Ext w wr) (fun i _ => ls.length - (intOf i).toNat)
      case atStart => exact ⟨0, by omega, rfl, HX.out⟩
      case round =>
        obtain ⟨j, hj, rfl, hx⟩ := hrel
        have HXJ := Lib.hid hx
        clear hx
        by_cases hlt : j < ls.length
        · skip
          obtain ⟨b0, o, cap', hA, _, _, hbl, hcell⟩ := HL.out.rd.pos (by omega)
          injection hA with hA1 hA2 hA3
          subst hA1
          subst hA3
          obtain ⟨u, hu, hub⟩ := HL.out.each j hlt
          have hc := (HXJ.out.cell b0 (o + j) hbl).trans (hcell j u hu)
          have hbb : (ls.getD j []).length ≤ 1073741824 := by
            have : ls.getD j [] = ls[j] := by simp [List.getD, hlt]
            rw [this]; exact HSM.out _ (List.getElem_mem hlt)
          obtain ⟨oo, c, d1, d2⟩ := both_decode _ u key (ls.getD j []) wr (Rd.ext hub HXJ.out) (Rd.ext HK.out HXJ.out) (by omega) hbb
          have D1 := Lib.hid d1
          have D2 := Lib.hid d2
          have TA : True := trivial
          clear hu hub hcell d1 d2
          go_wp2_with (first | (go_at_call 68; go_must (refine (D1.out wr (Ext.refl wr)).mono ?_; rintro e w2 ⟨x, rfl, hr2, hx2, hs2⟩; have HR2 := Lib.hid hr2; have HX2 := Lib.hid hx2; have HSA := Lib.hid hs2; clear hr2 hx2 hs2)) | (clear TA; refine wpl_store68 rfl _ _ rfl w2.heap.size (.int .u64 (x.num : Int)) (.int .i64 x.blk) x.sv x.gv (.int .u64 0) (.int .i64 0) (.slice none 0 0) (.slice none 0 0) rfl rfl (seRow_one HR2.out) (heap_alloc_last w2 _) ?_; intro w3 h3 hu3; have hx3 : Ext w2 w3 := ((Ext.refl w2).alloc _).upd_new hu3 (Nat.le_refl _); have HX3 := Lib.hid (HX2.out.trans hx3); have HR3 := Lib.hid (HR2.out.ext hx3); have HG3 : Hid (At68 w3 w2.heap.size (seRow x)) := Lib.hid h3; have hc3 := hc; have hl3 := HG3.out.lt; have hl30 := HX3.out.size; have hcc : w3.cell? ⟨b0, o + j, none⟩ = some u := (HX3.out.cell b0 (o + j) (Nat.lt_of_lt_of_le hbl HXJ.out.size)).trans hc3; clear h3 hu3 hx3 hc3; have TB : True := trivial) | (go_at_call 70; clear TB; go_must (refine (D2.out _ HX3.out).mono ?_; rintro e w4 ⟨y, rfl, hr4, hx4, hs4⟩; have HR4 := Lib.hid hr4; have HX4 := Lib.hid (HX3.out.trans hx4); have HRX4 := Lib.hid (HR3.out.ext hx4); have HGX4 := Lib.hid (HG3.out.ext hx4); have HSB := Lib.hid hs4; clear hr4 hx4 hs4; have TC : True := trivial)) | (clear TC; refine wpl_store68 rfl _ _ rfl w4.heap.size (.int .u64 (y.num : Int)) (.int .i64 y.blk) y.sv y.gv (.int .u64 0) (.int .i64 0) (.slice none 0 0) (.slice none 0 0) rfl rfl (seRow_one HR4.out) (heap_alloc_last w4 _) ?_; intro w5 h5 hu5; have hx5 : Ext w4 w5 := ((Ext.refl w4).alloc _).upd_new hu5 (Nat.le_refl _); have HX5 := Lib.hid (HX4.out.trans hx5); have HRX5 := Lib.hid (HRX4.out.ext hx5); have HRY5 := Lib.hid (HR4.out.ext hx5); have HGX5 := Lib.hid (HGX4.out.ext hx5); have HGY5 : Hid (At68 w5 w4.heap.size (seRow y)) := Lib.hid h5; clear h5 hu5 hx5; have TD : True := trivial) | (clear TD; refine wpl_load68 rfl _ rfl w2.heap.size rfl _ _ _ _ HGX5.out ?_; have TE : True := trivial) | (clear TE; refine wpl_load68 rfl _ rfl w4.heap.size rfl _ _ _ _ HGY5.out ?_) | (go_at_call 66; go_must (refine (rsame_any x y _ HRX5.out HRY5.out (says_long HSA.out)).mono ?_; rintro e w6 ⟨rfl, hx6⟩; rw [(says_same HSA.out HSB.out).2]; have HX6 := Lib.hid (HX5.out.trans hx6); clear hx6)))
          go_roundw
          case rel => exact ⟨j + 1, by omega, by go_num, HXJ.out.trans HX6.out⟩
          case measure => (simp [intOf] <;> omega)
        · obtain rfl : j = ls.length := by omega
          have C1 := Lib.hid (choose_any _ _ key ct vs ls wr (Rd.ext HK.out HXJ.out) (by omega) hct (HL.out.ext HXJ.out) HSM.out)
          have C2 : Hid (∀ w', Ext w w' → Calls Try.prog 72 #[.slice Ak key.length ck, .int .u64 (ct : Int), .slice A ls.length cap] w' fun e w'' => ∃ x c, e = .returned (.tuple #[x.v, .int .i64 c]) ∧ SeR w'' x ∧ Ext w' w'' ∧ Says (chosen key ct ls) x c) := Lib.hid (fun w' h => rchoose_any _ _ key ct vs ls w' (Rd.ext HK.out h) (by omega) hct (HL.out.ext h) HSM.out)
          have TA : True := trivial
          go_wp2_with (first | (go_at_call 71; go_must (refine C1.out.mono ?_; rintro e w2 ⟨x, c, rfl, hr2, hx2, hs2⟩; have HR2 := Lib.hid hr2; have HX2 := Lib.hid (HXJ.out.trans hx2); have HSA := Lib.hid hs2; clear hr2 hx2 hs2)) | (clear TA; refine wpl_store68 rfl _ _ rfl w2.heap.size (.int .u64 (x.num : Int)) (.int .i64 x.blk) x.sv x.gv (.int .u64 0) (.int .i64 0) (.slice none 0 0) (.slice none 0 0) rfl rfl (seRow_one HR2.out) (heap_alloc_last w2 _) ?_; intro w3 h3 hu3; have hx3 : Ext w2 w3 := ((Ext.refl w2).alloc _).upd_new hu3 (Nat.le_refl _); have HX3 := Lib.hid (HX2.out.trans hx3); have HR3 := Lib.hid (HR2.out.ext hx3); have HG3 : Hid (At68 w3 w2.heap.size (seRow x)) := Lib.hid h3; have hl3 := HG3.out.lt; clear h3 hu3 hx3; have TB : True := trivial) | (go_at_call 72; clear TB; go_must (refine (C2.out _ HX3.out).mono ?_; rintro e w4 ⟨y, c', rfl, hr4, hx4, hs4⟩; obtain ⟨hcc, hsm⟩ := says_same HSA.out hs4; subst hcc; have HSMB := Lib.hid hsm; have HR4 := Lib.hid hr4; have HX4 := Lib.hid (HX3.out.trans hx4); have HRX4 := Lib.hid (HR3.out.ext hx4); have HGX4 := Lib.hid (HG3.out.ext hx4); clear hr4 hx4 hs4 hsm; have TC : True := trivial)) | (clear TC; refine wpl_store68 rfl _ _ rfl w4.heap.size (.int .u64 (y.num : Int)) (.int .i64 y.blk) y.sv y.gv (.int .u64 0) (.int .i64 0) (.slice none 0 0) (.slice none 0 0) rfl rfl (seRow_one HR4.out) (heap_alloc_last w4 _) ?_; intro w5 h5 hu5; have hx5 : Ext w4 w5 := ((Ext.refl w4).alloc _).upd_new hu5 (Nat.le_refl _); have HX5 := Lib.hid (HX4.out.trans hx5); have HRX5 := Lib.hid (HRX4.out.ext hx5); have HRY5 := Lib.hid (HR4.out.ext hx5); have HGX5 := Lib.hid (HGX4.out.ext hx5); have HGY5 : Hid (At68 w5 w4.heap.size (seRow y)) := Lib.hid h5; clear h5 hu5 hx5; have TD : True := trivial) | (clear TD; refine wpl_load68 rfl _ rfl w2.heap.size rfl _ _ _ _ HGX5.out ?_; have TE : True := trivial) | (clear TE; refine wpl_load68 rfl _ rfl w4.heap.size rfl _ _ _ _ HGY5.out ?_) | (go_at_call 66; go_must (refine (rsame_any x y _ HRX5.out HRY5.out (says_long HSA.out)).mono ?_; rintro e w6 ⟨rfl, hx6⟩; rw [HSMB.out]; have HX6 := Lib.hid (HX5.out.trans hx6); clear hx6)) | (go_at_call 65; go_must (refine (HP1.out _).mono ?_; rintro e w7 ⟨rfl, rfl⟩)) | (go_at_call 73; go_must (refine (HP2.out _).mono ?_; rintro e w8 ⟨rfl, rfl⟩)) | (go_at_call 63; go_must (refine (known8_any _).mono ?_; rintro e w9 ⟨rfl, hx9⟩; have HX9 := Lib.hid (HX6.out.trans hx9); clear hx9)))
          go_ret
          exact ⟨rfl, HX9.out⟩
theorem sdec_law (kv lv : Value) (key : List UInt8) (ct : Nat) (vs : List Value) (ls : List (List UInt8)) (n : Int) (w : World) (hK : Bs w kv key) (hL : Rss w lv vs ls) (hct : ct ≤ 18446744073709551615) (hb : ∀ b ∈ ls, b.length ≤ 140737488355328) :
    Calls Try.prog 23 #[kv, .int .u64 (ct : Int), lv, .int .i64 n] w fun e w' => e = .returned (.bool true) ∧ Ext w w' := by
  by_cases hm : 10 < ls.length
  · exact sdec_many kv lv key ct vs ls n w hK hL hm
  by_cases hk : 100 < key.length
  · exact sdec_key kv lv key ct vs ls n w hK hL hb (by omega) hk
  by_cases hs : 2000 < lens ls
  · exact sdec_big kv lv key ct vs ls n w hK hL hb (by omega) (by omega) hs
  by_cases hn : 100000 < n
  · exact sdec_n kv lv key ct vs ls n w hK hL hb (by omega) (by omega) (by omega) hn
  exact sdec_good kv lv key ct vs ls n w hK hL hb (by omega) hct (by omega) (by omega) (by omega)
end Go.Proofs.Ytapojpjmeadabaa
end

section
/- Arguments opened: byte slices, each within the row's own reach. -/
namespace Go.Proofs.Ytapojpjmeadabaa
open Go.ChangeShapes Go.WideShapes Go.ChangeAt Go.RowKit
set_option linter.unusedVariables false
set_option linter.unusedSimpArgs false
section
variable {H : Type} {enc : TypeId × Value → H} {W : World}
set_option maxRecDepth 100000 in
theorem open_rss_sized {base : Nat} {v : Value} {d : DataW H} {p : List MemPlace} {ts : List TypeId} {ds : List (DataW H)} (hz0 : (DataW.weightsEach Try.prog ts ds).all (· ≤ reachBytes) = true) (j : Nat) (htj : ts[j]? = some 22) (hdj : ds[j]? = some d)
    (hval : Value.okWide Try.prog W .any base 22 v) (h : DataW.Trod enc Try.prog W 0 (fun _ => true) true 22 v d p) :
    ∃ vs ls, Rss W v vs ls ∧ ∀ b ∈ ls, b.length ≤ 140737488355328 := by
  obtain ⟨a1, len1, cap1, rfl⟩ := okWide_slice Try.underlying22 hval
  obtain ⟨fuel, hf⟩ := h
  rcases Go.Deep.open_slice1 Try.underlying22 cellsOf23 hf with ⟨hcs, hx⟩ | ⟨a, len, cap, m, n, V, D, Pl, hcs, _, hl, hm, hmm, hx, hcell⟩
  · simp [Value.cells] at hcs
    obtain ⟨rfl, rfl, rfl⟩ := hcs
    exact ⟨[], [], ⟨Rd.nil W 1, fun i hi => absurd hi (Nat.not_lt_zero _)⟩, fun b hb => by cases hb⟩
  · simp [Value.cells] at hcs
    obtain ⟨rfl, rfl, rfl⟩ := hcs
    simp only [if_true] at hmm
    subst hmm
    simp only [Prod.mk.injEq] at hx
    obtain ⟨rfl, _⟩ := hx
    have each : ∀ i, i < len1 → ∃ l : List UInt8, Bs W (V i) l ∧ l.length ≤ 140737488355328 := fun i hi => by
      exact bs_sized (hcell i (by omega)).2 (fun k hk => by
        have h1 := List.all_eq_true.1 hz0 _ (DataW.weights_mem_each htj hdj k (by
          simp only [DataW.weights, Try.underlying22, List.mem_cons, List.mem_append]
          exact Or.inr (Or.inl (weightsAll_mem (d := D i) (List.mem_map.2 ⟨i, List.mem_range.2 hi, rfl⟩) k hk))))
        simpa using h1)
    obtain ⟨L, hL⟩ := Go.Deep.choose_lt each
    refine ⟨(List.range len1).map V, (List.range len1).map L, ⟨?_, fun i hi => ?_⟩, fun b hb => ?_⟩
    · rw [List.length_map, List.length_range]
      refine ⟨by simp, some a, _, rfl, hl, hm, (fun h => by cases h), fun h0 => ?_⟩
      obtain ⟨ab, ao, spot⟩ := a
      have hspot : spot = none := by simpa [Addr.add] using World.cell?_spot (hcell 0 (by omega)).1
      subst hspot
      refine ⟨ab, ao, rfl, ?_, fun j u hj => ?_⟩
      · have := World.block_lt_of_cell? W _ (hcell 0 (by omega)).1
        simpa [Addr.add] using this
      · have hj' : j < len1 := by have := (List.getElem?_eq_some_iff.1 hj).1; simpa using this
        have hcj := (hcell j (by omega)).1
        rw [Addr.add_lit] at hcj
        rw [hcj]
        simp [hj'] at hj
        rw [hj]
    · have hi' : i < len1 := by simpa using hi
      refine ⟨V i, by simp [hi'], ?_⟩
      have e : ((List.range len1).map L).getD i [] = L i := by simp [List.getD, hi']
      rw [e]
      exact (hL i hi').1
    · obtain ⟨i, hi, rfl⟩ := List.mem_map.1 hb
      exact (hL i (List.mem_range.1 hi)).2
end
end Go.Proofs.Ytapojpjmeadabaa
end

/- The reference's lists: sacristanref01.Join, Put, Get. -/
import Derived.Test.YtapojpjmeadabaaSum
namespace Go.Proofs.Ytapojpjmeadabaa
open Go.RowKit
set_option linter.unusedVariables false
set_option linter.unusedSimpArgs false
attribute [local go_sem] lt_ext cell?_ext frozen?_ext shape?_ext

/-- New bytes: 'v' holds l in memory that is newer than w. -/
structure NewB (w : World) (v : Value) (l : List UInt8) (w' : World) : Prop where
  own : OwnB w' v l
  ext : Ext w w'
  fr : ∀ g, v.ownBlock = some g → w.heap.size ≤ g
theorem NewB.nil {w w' : World} (h : Ext w w') : NewB w (.slice none 0 0) [] w' := ⟨Own.nil _ _ _, h, fun g hg => nomatch hg⟩
theorem NewB.bs {w w' : World} {v : Value} {l : List UInt8} (h : NewB w v l w') : Bs w' v l := Own.rd h.own
theorem NewB.grow {w w1 w2 : World} {v : Value} {l : List UInt8} (h : NewB w v l w1) (hx : Ext w1 w2) : NewB w v l w2 := ⟨h.own.ext hx, h.ext.trans hx, h.fr⟩
theorem NewB.app {w w1 w2 : World} {v v' : Value} {l l' : List UInt8} (h : NewB w v l w1) (ho : OwnB w2 v' l') (hg : Grew w1 w2 v) (hf : v'.ownBlock = v.ownBlock ∨ ∀ g, v'.ownBlock = some g → w1.heap.size ≤ g) : NewB w v' l' w2 := by
  refine ⟨ho, ?_, fun g hv => ?_⟩
  · exact (Chg.trans (S := fun _ => False) (Chg.of_ext h.ext _) (Chg.of_grew hg) (fun i hi e => by have := h.fr i e.symm; omega)).ext fun k hk => hk.elim
  · rcases hf with e | e
    · exact h.fr g (e ▸ hv)
    · exact Nat.le_trans h.ext.size (e g hv)

set_option maxRecDepth 100000 in
set_option maxHeartbeats 1000000 in
theorem join_any (lv : Value) (vs : List Value) (ls : List (List UInt8)) (w : World) (hL : Rss w lv vs ls) (hle : ls.flatten.length ≤ 4294967296) :
    Calls Try.prog 28 #[lv] w fun e w' => ∃ v, e = .returned v ∧ NewB w v ls.flatten w' := by
  obtain ⟨A, cap, rfl, hcap, hcm, _, _⟩ := hL.rd.is
  have hlm : ls.length ≤ maxLen := Nat.le_trans hcap hcm
  unfold maxLen at hlm
  have HL := Lib.hid hL
  clear hL
  go_enter Try.func28, Try.ntmps28
  go_wp2
  go_loopw [3, 4] (fun v i wr => ∃ (k : Nat), k ≤ ls.length ∧ i = .int .i64 k ∧ NewB w v (ls.take k).flatten wr)
    (fun _ i _ => ls.length - (intOf i).toNat)
  case atStart => exact ⟨0, by omega, rfl, NewB.nil (Ext.refl w)⟩
  case round =>
    obtain ⟨k, hk, rfl, hnew⟩ := hrel
    have HN := Lib.hid hnew
    have hf := flat_take_le ls (k + 1)
    by_cases hlt : k < ls.length
    · have hfs := flat_take_succ ls k hlt
      rw [hfs, List.length_append] at hf
      have HF := Lib.hid hfs
      obtain ⟨b, o, cap', hA, _, _, hbl, hcell⟩ := HL.out.rd.pos (by omega)
      injection hA with hA1 hA2 hA3
      subst hA1
      subst hA3
      obtain ⟨u, hu, hub⟩ := HL.out.each k hlt
      have hc := (hnew.ext.cell b (o + k) hbl).trans (hcell k u hu)
      have HU := Lib.hid (Rd.ext hub hnew.ext)
      clear hnew hcell hub hu hfs
      go_wp2_with (at_builtin; go_must (refine wpList_append_bs rfl _ _ rfl _ rfl HN.out.own _ rfl HU.out (by omega) ?_; intro v1 w1 ho1 hg1 hf1; have HN1 := Lib.hid (HN.out.app ho1 hg1 hf1); clear ho1 hg1 hf1))
      go_roundw
      case rel => exact ⟨k + 1, by omega, by go_num, by rw [HF.out]; exact HN1.out⟩
      case measure => simp [intOf]; omega
    · have e : (ls.take k).flatten = ls.flatten := by rw [show k = ls.length by omega, List.take_length]
      rw [e] at HN
      clear hnew e
      go_wp2
      go_ret
      exact ⟨_, rfl, HN.out⟩

/-- k bytes of a number, the greatest first. -/
def be (n : Nat) : Nat → List UInt8
  | 0 => []
  | k + 1 => UInt8.ofNat (n / 256 ^ k) :: be n k
theorem be_length (n : Nat) : ∀ k, (be n k).length = k
  | 0 => rfl
  | k + 1 => by simp [be, be_length n k]
theorem be_eight (n : Nat) : be n 8 = Sha.bytes8 n := by simp [be, Sha.bytes8]
theorem be_four (x : BitVec 32) : be x.toNat 4 = Sha.bytes4 x := by simp [be, Sha.bytes4]

def quo (n t : Nat) : Nat := n / 256 ^ t
theorem quo_succ (n t : Nat) : ((quo n t : Nat) : Int) / (256 : Int) = (quo n (t + 1) : Nat) := by
  have h : quo n (t + 1) = quo n t / 256 := by unfold quo; rw [Nat.pow_succ, Nat.div_div_eq_div_mul]
  rw [h]; omega
theorem one_cells (x : UInt8) : #[Value.int .u8 (i8 x)] = ([x].map B8).toArray := rfl
set_option maxRecDepth 100000 in
set_option maxHeartbeats 1000000 in
theorem put_any (n : Nat) (hn : n ≤ 18446744073709551615) (k : Nat) (hk0 : 1 ≤ k) (hk8 : k ≤ 8) (w : World) :
    Calls Try.prog 79 #[.int .u64 (n : Int), .int .i64 (k : Int)] w fun e w' => ∃ v, e = .returned v ∧ NewB w v (be n k) w' := by
  have HN := Lib.hid hn
  clear hn
  go_enter Try.func79, Try.ntmps79
  go_wp2
  go_loopw [5, 6] (fun v i wr => ∃ (r : Nat) (P : List UInt8), r ≤ k ∧ i = .int .i64 ((r : Int) - 1) ∧ NewB w v P wr ∧ P ++ be n r = be n k)
    (fun _ i _ => (intOf i + 1).toNat)
  case atStart => exact ⟨k, [], by omega, by first | rfl | (go_num) , NewB.nil (Ext.refl w), rfl⟩
  case round =>
    obtain ⟨r, P, hr, rfl, hnew, hP⟩ := hrel
    have HNW := Lib.hid hnew
    have HP := Lib.hid hP
    have hPl : P.length + r = k := by have := congrArg List.length hP; rw [List.length_append, be_length, be_length] at this; exact this
    clear hnew hP
    by_cases hlt : 0 < r
    · obtain ⟨s, rfl⟩ : ∃ s, r = s + 1 := ⟨r - 1, by omega⟩
      rw [show (((s + 1 : Nat) : Int) - 1) = (s : Int) by omega]
      have h0 : (n : Int) = (quo n 0 : Nat) := by simp [quo]
      go_wp2_with fail
      rw [h0]
      clear h0
      obtain ⟨wo, rfl⟩ : ∃ wo : World, wo = wr := ⟨_, rfl⟩
      go_loop [7, 8] (fun x i => ∃ t : Nat, t ≤ s ∧ i = .int .i64 t ∧ x = .int .u64 (quo n t : Nat)) (fun _ i => s - (intOf i).toNat)
      case atStart => exact ⟨0, by omega, rfl, rfl⟩
      case round =>
        obtain ⟨t, ht, rfl, rfl⟩ := hrel
        by_cases hts : t < s
        · go_wp2
          go_round
          case rel => exact ⟨t + 1, by omega, by go_num, by have hb : quo n t ≤ 18446744073709551615 := Nat.le_trans (Nat.div_le_self _ _) HN.out; rw [← quo_succ, IntKind.wrap_u64]; congr 1; omega⟩
          case measure => simp [intOf]; omega
        · obtain rfl : t = s := by omega
          go_wp2_with (at_builtin; simp only [m8_of_nat]; go_must (refine wpList_append_bs rfl _ _ rfl _ rfl (HNW.out.grow ((Ext.refl wo).alloc _)).own _ rfl (Bs.lit_new wo _ [UInt8.ofNat (quo n t)] (one_cells _) (by simp)) (by simp; omega) ?_; intro v1 w1 ho1 hg1 hf1; have HN1 := Lib.hid ((HNW.out.grow ((Ext.refl wo).alloc _)).app ho1 hg1 hf1); clear ho1 hg1 hf1))
          go_roundw
          case rel => exact ⟨_, _, ⟨t, by omega, rfl, P ++ [UInt8.ofNat (quo n t)], HN1.out, by rw [← HP.out]; simp [be, quo]⟩, by simp [quo], rfl, by go_num⟩
          case measure => simp [intOf]; omega
    · obtain rfl : r = 0 := by omega
      go_wp2
      go_ret
      refine ⟨_, rfl, ?_⟩
      have := HP.out
      simp only [be, List.append_nil] at this
      rw [← this]
      exact HNW.out

/-- The number that bytes spell, the greatest first. -/
def spell (l : List UInt8) : Nat := l.foldl (fun x b => x * 256 + b.toNat) 0
theorem spell_snoc (l : List UInt8) (b : UInt8) : spell (l ++ [b]) = spell l * 256 + b.toNat := by simp [spell]
theorem spell_lt_of (l : List UInt8) : ∀ a : Nat, l.foldl (fun x b => x * 256 + b.toNat) a < (a + 1) * 256 ^ l.length := by
  induction l with
  | nil => intro a; simp
  | cons b l ih =>
    intro a
    have h1 := ih (a * 256 + b.toNat)
    have h2 := b.toNat_lt
    have h3 : (a * 256 + b.toNat + 1) * 256 ^ l.length ≤ ((a + 1) * 256) * 256 ^ l.length := Nat.mul_le_mul_right _ (by omega)
    rw [List.foldl_cons, List.length_cons, Nat.pow_succ]
    have h4 : ((a + 1) * 256) * 256 ^ l.length = (a + 1) * (256 ^ l.length * 256) := by rw [Nat.mul_assoc, Nat.mul_comm 256]
    omega
theorem spell_lt (l : List UInt8) : spell l < 256 ^ l.length := by simpa [spell] using spell_lt_of l 0
theorem spell_take (l : List UInt8) (i : Nat) (hi : i < l.length) : spell (l.take (i + 1)) = spell (l.take i) * 256 + (l.getD i 0).toNat := by
  rw [List.take_add_one, ← spell_snoc]; congr 2; simp [hi]
theorem or_add (x y n : Nat) (h : y < 2 ^ n) : x * 2 ^ n ||| y = x * 2 ^ n + y := by
  rw [← Nat.shiftLeft_eq, Nat.shiftLeft_add_eq_or_of_lt h]
theorem four_word (a b c d : UInt8) : BitVec.ofNat 32 (spell [a, b, c, d]) = (Sha.b32 a <<< 24) ||| (Sha.b32 b <<< 16) ||| (Sha.b32 c <<< 8) ||| Sha.b32 d := by
  have ha := a.toNat_lt
  have hb := b.toNat_lt
  have hc := c.toNat_lt
  have hd := d.toNat_lt
  apply BitVec.eq_of_toNat_eq
  have e (x : UInt8) : (Sha.b32 x).toNat = x.toNat := by have := x.toNat_lt; simp [Sha.b32]; try omega
  simp only [BitVec.toNat_or, BitVec.toNat_shiftLeft, e, Nat.shiftLeft_eq, BitVec.toNat_ofNat]
  rw [Nat.mod_eq_of_lt (a := a.toNat * 2 ^ 24) (by omega), Nat.mod_eq_of_lt (a := b.toNat * 2 ^ 16) (by omega), Nat.mod_eq_of_lt (a := c.toNat * 2 ^ 8) (by omega)]
  rw [or_add a.toNat (b.toNat * 2 ^ 16) 24 (by omega), show a.toNat * 2 ^ 24 + b.toNat * 2 ^ 16 = (a.toNat * 256 + b.toNat) * 2 ^ 16 by omega,
    or_add _ (c.toNat * 2 ^ 8) 16 (by omega), show (a.toNat * 256 + b.toNat) * 2 ^ 16 + c.toNat * 2 ^ 8 = ((a.toNat * 256 + b.toNat) * 256 + c.toNat) * 2 ^ 8 by omega,
    or_add _ d.toNat 8 (by omega)]
  simp only [spell, List.foldl_cons, List.foldl_nil]
  omega
theorem take_drop_four (l : List UInt8) (i : Nat) (h : i + 4 ≤ l.length) : (l.take (i + 4)).drop i = [l.getD i 0, l.getD (i + 1) 0, l.getD (i + 2) 0, l.getD (i + 3) 0] := by
  apply List.ext_getElem
  · simp; omega
  · intro j h1 h2
    simp at h2
    have hj : j = 0 ∨ j = 1 ∨ j = 2 ∨ j = 3 := by omega
    rcases hj with rfl | rfl | rfl | rfl <;> simp [List.getD, List.getElem?_eq_getElem, show i < l.length by omega, show i + 1 < l.length by omega, show i + 2 < l.length by omega, show i + 3 < l.length by omega]
theorem spell_word (l : List UInt8) (k : Nat) (h : 4 * k + 4 ≤ l.length) : BitVec.ofNat 32 (spell ((l.take (4 * k + 4)).drop (4 * k))) = Sha.word l k := by
  rw [take_drop_four l _ h, four_word]; rfl
theorem spell_step (x : Nat) (b : UInt8) (hx : x < 256 ^ 7) : IntKind.u64.wrap (IntKind.u64.wrap (256 * (x : Int)) + IntKind.u64.wrap (i8 b)) = ((x * 256 + b.toNat : Nat) : Int) := by
  have := b.toNat_lt
  simp only [IntKind.wrap_u64, i8]; omega
set_option maxRecDepth 100000 in
set_option maxHeartbeats 1000000 in
theorem get_any (v : Value) (l : List UInt8) (hl : l.length ≤ 8) (w : World) (hB : Bs w v l) :
    Calls Try.prog 109 #[v] w fun e w' => e = .returned (.int .u64 (spell l : Nat)) ∧ w' = w := by
  obtain ⟨A, cap, rfl, hcap, hcm, _, _⟩ := hB.is
  have HB := Lib.hid hB
  clear hB
  go_enter Try.func109, Try.ntmps109
  go_wp2
  go_loop [3, 4] (fun x i => ∃ k : Nat, k ≤ l.length ∧ i = .int .i64 k ∧ x = .int .u64 (spell (l.take k) : Nat)) (fun _ i => l.length - (intOf i).toNat)
  case atStart => exact ⟨0, by omega, rfl, rfl⟩
  case round =>
    obtain ⟨k, hk, rfl, rfl⟩ := hrel
    by_cases hlt : k < l.length
    · obtain ⟨b, o, cap', hA, _, _, hbl, hcell⟩ := HB.out.pos (by omega)
      injection hA with hA1 hA2 hA3
      subst hA1
      subst hA3
      have hc := hcell k hlt
      clear hcell
      have hs := spell_lt (l.take k)
      rw [List.length_take, Nat.min_eq_left hk] at hs
      have hs : spell (l.take k) < 256 ^ 7 := Nat.lt_of_lt_of_le hs (Nat.pow_le_pow_right (by omega) (by omega))
      have HS := Lib.hid hs
      clear hs
      go_wp2
      go_round
      case rel => exact ⟨k + 1, by omega, by go_num, by rw [spell_take _ _ hlt, ← spell_step _ _ HS.out]; simp [hlt]⟩
      case measure => simp [intOf]; omega
    · obtain rfl : k = l.length := by omega
      go_wp2
      go_ret
      exact ⟨rfl, rfl⟩
end Go.Proofs.Ytapojpjmeadabaa

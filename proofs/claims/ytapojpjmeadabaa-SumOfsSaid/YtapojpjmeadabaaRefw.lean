/- The reference's hash: sacristanref02.words, constants. -/
import Derived.Test.YtapojpjmeadabaaRefa
import Derived.Test.YtapojpjmeadabaaRegv
namespace Go.Proofs.Ytapojpjmeadabaa
open Go.RowKit
set_option linter.unusedVariables false
set_option linter.unusedSimpArgs false
attribute [local go_sem] lt_ext cell?_ext frozen?_ext shape?_ext u32_xor u32_or u32_and u32_not u32_not_max u32_add u32_wrap u8_wrap u32_shl24 u32_shl16 u32_shl8 u32_shr3 u32_shr10 u8_xor u8_or u32_of_u8 i32_mod i8_mod m32_add m32_shl24 m32_shl16 m32_shl8 m32_of_u8

abbrev Ws (w : World) (v : Value) (l : List (BitVec 32)) : Prop := Rd w 1 v l.length (l.map W32)
abbrev OwnW (w : World) (v : Value) (l : List (BitVec 32)) : Prop := Own w 95 1 v l.length (l.map W32)
theorem one_words (l : List (BitVec 32)) : ∀ u ∈ l.map W32, u.oneCell' = true := by
  intro u hu
  obtain ⟨x, _, rfl⟩ := List.mem_map.1 hu
  rfl
theorem Ws.pos {w : World} {v : Value} {l : List (BitVec 32)} (h : Ws w v l) (hn : 0 < l.length) :
    ∃ b o cap, v = .slice (some ⟨b, o, none⟩) l.length cap ∧ l.length ≤ cap ∧ cap ≤ maxLen ∧ b < w.heap.size ∧ ∀ i, i < l.length → w.cell? ⟨b, o + i, none⟩ = some (W32 (l.getD i 0)) := by
  obtain ⟨b, o, cap, h1, h2, h3, h4, h5⟩ := Rd.pos h hn
  exact ⟨b, o, cap, h1, h2, h3, h4, fun i hi => h5 i _ (by simp [hi])⟩
theorem wpList_append_ws {ops : Array Oper} {rest : List Oper} {o : Oper} {a : Act} {w : World} {Q : Exit → Act → World → Prop} (hgd : o.guard = none)
    (s x : Operand) (ho : o.op = .call { callee := .builtin .append, args := #[s, x], argTypes := #[96, 96] }) (v : Value) (hs : a.eval s = v) {l : List (BitVec 32)} (hown : OwnW w v l)
    (y : Value) (hx : a.eval x = y) {l' : List (BitVec 32)} (hy : Ws w y l') (h63 : l.length + l'.length ≤ 4294967296)
    (hK : ∀ v' w', OwnW w' v' (l ++ l') → Grew w w' v → (v'.ownBlock = v.ownBlock ∨ ∀ g, v'.ownBlock = some g → w.heap.size ≤ g) → wpList Try.prog ops Q rest (a.put o.dst v') w') : wpList Try.prog ops Q (o :: rest) a w :=
  wpList_append_rd ei96 hgd s x ho v hs hown y hx hy (one_words l') h63 fun v' w' h1 h2 h3 => hK v' w' (by unfold OwnW; rw [List.length_append, List.map_append]; exact h1) h2 h3
/-- New words. -/
structure NewW (w : World) (v : Value) (l : List (BitVec 32)) (w' : World) : Prop where
  own : OwnW w' v l
  ext : Ext w w'
  fr : ∀ g, v.ownBlock = some g → w.heap.size ≤ g
theorem NewW.nil {w w' : World} (h : Ext w w') : NewW w (.slice none 0 0) [] w' := ⟨Own.nil _ _ _, h, fun g hg => nomatch hg⟩
theorem NewW.ws {w w' : World} {v : Value} {l : List (BitVec 32)} (h : NewW w v l w') : Ws w' v l := Own.rd h.own
theorem NewW.grow {w w1 w2 : World} {v : Value} {l : List (BitVec 32)} (h : NewW w v l w1) (hx : Ext w1 w2) : NewW w v l w2 := ⟨h.own.ext hx, h.ext.trans hx, h.fr⟩
theorem NewW.app {w w1 w2 : World} {v v' : Value} {l l' : List (BitVec 32)} (h : NewW w v l w1) (ho : OwnW w2 v' l') (hg : Grew w1 w2 v) (hf : v'.ownBlock = v.ownBlock ∨ ∀ g, v'.ownBlock = some g → w1.heap.size ≤ g) : NewW w v' l' w2 := by
  refine ⟨ho, ?_, fun g hv => ?_⟩
  · exact (Chg.trans (S := fun _ => False) (Chg.of_ext h.ext _) (Chg.of_grew hg) (fun i hi e => by have := h.fr i e.symm; omega)).ext fun k hk => hk.elim
  · rcases hf with e | e
    · exact h.fr g (e ▸ hv)
    · exact Nat.le_trans h.ext.size (e g hv)
theorem Ws.lit_new (w : World) (c : Array Value) (l : List (BitVec 32)) (hc : c = (l.map W32).toArray) (hl : l.length ≤ 4294967296) : Ws (w.alloc (.cells c 95)) (.slice (some ⟨w.heap.size, 0, none⟩) l.length l.length) l := by
  subst hc
  refine Rd.lit (by simp) (Nat.le_refl _) (Nat.le_trans hl (by unfold maxLen; decide)) (by simp) fun j u hj => ?_
  rw [Nat.zero_add, cell_of_row _ _ _ _ _ _ (heap_alloc_last w _)]
  simpa using hj
theorem m32_of_spell (l : List UInt8) (k : Nat) (h : 4 * k + 4 ≤ l.length) : ((spell ((l.take (4 * k + 4)).drop (4 * k)) : Nat) : Int) % (4294967296 : Int) = i32 (Sha.word l k) := by
  rw [← spell_word l k h]; unfold i32; simp [BitVec.toNat_ofNat]
theorem Bs.piece {w : World} {b o : Nat} {l : List UInt8} (hb : b < w.heap.size) (hc : ∀ i, i < l.length → w.cell? ⟨b, o + i, none⟩ = some (B8 (l.getD i 0))) (i k cap : Nat) (h : i + k ≤ l.length) (hk : k ≤ cap) (hm : cap ≤ maxLen) :
    Bs w (.slice (some ⟨b, o + i, none⟩) k cap) ((l.take (i + k)).drop i) := by
  have e : ((l.take (i + k)).drop i).length = k := by rw [List.length_drop, List.length_take, Nat.min_eq_left h]; omega
  refine Bs.of_rd (n := k) (Rd.lit (by rw [List.length_map, e]; omega) hk hm hb fun j u hj => ?_) e.symm rfl
  have hj' : j < k := by
    have := (List.getElem?_eq_some_iff.1 hj).1
    rw [List.length_map, e] at this; exact this
  rw [Nat.add_assoc, hc (i + j) (by omega)]
  rw [List.getElem?_map, List.getElem?_drop, List.getElem?_take, if_pos (by omega), List.getElem?_eq_getElem (by omega)] at hj
  simpa [show i + j < l.length by omega] using hj
theorem word_cells (x : BitVec 32) : #[Value.int .u32 (i32 x)] = ([x].map W32).toArray := rfl
set_option maxRecDepth 100000 in
set_option maxHeartbeats 1000000 in
theorem words_any (v : Value) (l : List UInt8) (hl : l.length = 64) (w : World) (hB : Bs w v l) :
    Calls Try.prog 112 #[v] w fun e w' => ∃ v', e = .returned v' ∧ NewW w v' (Sha.words l 64) w' := by
  obtain ⟨b, o, cap, rfl, hcap, hcm, hbl, hcell⟩ := hB.pos (by omega)
  rw [hl] at hB ⊢
  have HC := Lib.hid hcell
  clear hB hcell
  unfold maxLen at hcm
  go_enter Try.func112, Try.ntmps112
  go_wp2
  go_loopw [3, 4] (fun v i wr => ∃ k : Nat, k ≤ 16 ∧ i = .int .i64 k ∧ NewW w v (Sha.words l k) wr) (fun _ i _ => 16 - (intOf i).toNat)
  case atStart => exact ⟨0, by omega, rfl, NewW.nil (Ext.refl w)⟩
  case round =>
    obtain ⟨k, hk, rfl, hnew⟩ := hrel
    have hlen := Sha.words_length l k
    have HN := Lib.hid hnew
    clear hnew
    by_cases hlt : k < 16
    · go_wp2_with (first | (go_at_call 109; go_must (refine (get_any _ ((l.take (4 * k + 4)).drop (4 * k)) (by simp; omega) _ (Rd.ext (Bs.piece hbl HC.out (4 * k) 4 (cap - 4 * k) (by omega) (by omega) (by unfold maxLen; omega)) HN.out.ext)).mono ?_; rintro e w1 ⟨rfl, rfl⟩)) | (at_builtin; simp only [m32_of_spell l k (show 4 * k + 4 ≤ l.length by omega)]; go_must (refine wpList_append_ws rfl _ _ rfl _ rfl (HN.out.grow ((Ext.refl _).alloc _)).own _ rfl (Ws.lit_new _ _ [Sha.word l k] (word_cells _) (by simp)) (by rw [hlen]; simp; omega) ?_; intro v1 w1 ho1 hg1 hf1; have HN1 := Lib.hid ((HN.out.grow ((Ext.refl _).alloc _)).app ho1 hg1 hf1); clear ho1 hg1 hf1)))
      go_roundw
      case rel => exact ⟨k + 1, by omega, by go_num, by simpa [Sha.words, Sha.nxt, hlt] using HN1.out⟩
      case measure => simp [intOf]; omega
    · obtain rfl : k = 16 := by omega
      go_wp2
      go_loopw [3, 5] (fun v i wr => ∃ k : Nat, 16 ≤ k ∧ k ≤ 64 ∧ i = .int .i64 k ∧ NewW w v (Sha.words l k) wr) (fun _ i _ => 64 - (intOf i).toNat)
      case atStart => exact ⟨16, by omega, by omega, rfl, HN.out⟩
      case round =>
        clear HN
        obtain ⟨k, hk1, hk2, rfl, hnew⟩ := hrel
        have hlen := Sha.words_length l k
        by_cases hlt : k < 64
        · obtain ⟨b2, o2, cap2, rfl, _, _, hb2, hcell⟩ := hnew.ws.pos (by omega)
          rw [hlen] at hcell hnew ⊢
          have c15 := hcell (k - 15) (by omega)
          have c2 := hcell (k - 2) (by omega)
          have c16 := hcell (k - 16) (by omega)
          have c7 := hcell (k - 7) (by omega)
          have HN := Lib.hid hnew
          clear hnew hcell
          go_wp2
          refine wp_region_mt 31 (by kernel_rfl) (by kernel_rfl) ?_
          simp only [List.take_succ_cons, List.take_zero, List.drop_succ_cons, List.drop_zero]
          repeat (refine gm_q rfl rfl rfl rfl (fun K hK => ?_); go_big_quiet_op; refine hK _ ?_; clear hK K)
          refine gm_c rfl rfl rfl rfl 114 #[W32 ((Sha.words l k).getD (k - 15) 0), .int .i64 7] (fun _ => by go_simp) _ (fun x => (turn_c _ _ (by decide) (by decide) _).mono fun e w' ⟨h1, h2⟩ => ⟨h1, h2 ▸ Ext.refl _⟩) ?_
          simp only [Act.put, List.setIfInBounds_toArray, List.set_cons_succ, List.set_cons_zero]
          repeat (refine gm_q rfl rfl rfl rfl (fun K hK => ?_); go_big_quiet_op; refine hK _ ?_; clear hK K)
          refine gm_c rfl rfl rfl rfl 114 #[W32 ((Sha.words l k).getD (k - 15) 0), .int .i64 18] (fun _ => by go_simp) _ (fun x => (turn_c _ _ (by decide) (by decide) _).mono fun e w' ⟨h1, h2⟩ => ⟨h1, h2 ▸ Ext.refl _⟩) ?_
          simp only [Act.put, List.setIfInBounds_toArray, List.set_cons_succ, List.set_cons_zero]
          repeat (refine gm_q rfl rfl rfl rfl (fun K hK => ?_); go_big_quiet_op; refine hK _ ?_; clear hK K)
          refine gm_c rfl rfl rfl rfl 114 #[W32 ((Sha.words l k).getD (k - 2) 0), .int .i64 17] (fun _ => by go_simp) _ (fun x => (turn_c _ _ (by decide) (by decide) _).mono fun e w' ⟨h1, h2⟩ => ⟨h1, h2 ▸ Ext.refl _⟩) ?_
          simp only [Act.put, List.setIfInBounds_toArray, List.set_cons_succ, List.set_cons_zero]
          repeat (refine gm_q rfl rfl rfl rfl (fun K hK => ?_); go_big_quiet_op; refine hK _ ?_; clear hK K)
          refine gm_c rfl rfl rfl rfl 114 #[W32 ((Sha.words l k).getD (k - 2) 0), .int .i64 19] (fun _ => by go_simp) _ (fun x => (turn_c _ _ (by decide) (by decide) _).mono fun e w' ⟨h1, h2⟩ => ⟨h1, h2 ▸ Ext.refl _⟩) ?_
          simp only [Act.put, List.setIfInBounds_toArray, List.set_cons_succ, List.set_cons_zero]
          repeat (refine gm_q rfl rfl rfl rfl (fun K hK => ?_); go_big_quiet_op; refine hK _ ?_; clear hK K)
          refine gm_v rfl rfl rfl rfl 68 rfl (fun u w' => Ws w' u [Sha.nxt l (Sha.words l k) k]) (fun _ _ _ h1 h2 => Rd.ext h2 h1) (fun x => ⟨_, _, by go_simp; exact ⟨rfl, rfl⟩, ?_, ?_⟩) ?_
          · have hnx : Sha.nxt l (Sha.words l k) k = (Sha.words l k)[k - 16]?.getD 0#32 + (Sha.rot ((Sha.words l k)[k - 15]?.getD 0#32) 7 ^^^ Sha.rot ((Sha.words l k)[k - 15]?.getD 0#32) 18 ^^^ (Sha.words l k)[k - 15]?.getD 0#32 >>> 3) + (Sha.words l k)[k - 7]?.getD 0#32 + (Sha.rot ((Sha.words l k)[k - 2]?.getD 0#32) 17 ^^^ Sha.rot ((Sha.words l k)[k - 2]?.getD 0#32) 19 ^^^ (Sha.words l k)[k - 2]?.getD 0#32 >>> 10) := by
              unfold Sha.nxt Sha.nextW
              rw [if_neg (by omega)]
              rfl
            rw [hnx]
            exact Ws.lit_new _ _ [_] (word_cells _) (by simp)
          · exact (Ext.refl _).alloc _
          refine gm_end_at rfl [(68, (fun u w' => Ws w' u [Sha.nxt l (Sha.words l k) k]))] rfl (fun xs x hk => ?_)
          have h68 := hk 68 (by simp [Act.put]) _ rfl
          simp only [fillM, Act.put, List.setIfInBounds_toArray, List.set_cons_succ, List.set_cons_zero]
          have he := ext_ext wr x
          generalize wr.ext x = w1 at *
          generalize xs 68 = v68 at *
          have H68 := Lib.hid h68
          have HE := Lib.hid he
          clear hk h68 he xs c15 c2 c16 c7
          go_wp2_with (at_builtin; go_must (refine wpList_append_ws rfl _ _ rfl _ rfl (HN.out.grow HE.out).own _ rfl H68.out (by rw [hlen]; simp; omega) ?_; intro v1 w2 ho1 hg1 hf1; have HN1 := Lib.hid ((HN.out.grow HE.out).app ho1 hg1 hf1); clear ho1 hg1 hf1))
          go_roundw
          case rel => exact ⟨k + 1, by omega, by omega, by go_num, HN1.out⟩
          case measure => simp [intOf]; omega
        · obtain rfl : k = 64 := by omega
          go_wp2
          go_ret
          exact ⟨_, rfl, hnew⟩
end Go.Proofs.Ytapojpjmeadabaa

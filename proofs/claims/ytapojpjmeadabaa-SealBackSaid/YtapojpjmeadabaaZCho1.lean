/- Cho1, Cho2: several texts in one. -/
import Derived.Test.YtapojpjmeadabaaZRdec3
section
/- Which seal is chosen: plain; seals that lie beside a block of another seal. -/
namespace Go.Proofs.Ytapojpjmeadabaa
open Go.RowKit
set_option linter.unusedVariables false
set_option linter.unusedSimpArgs false
attribute [local go_sem] lt_ext cell?_ext frozen?_ext shape?_ext

def mkSe (b : List UInt8) (sv gv : Value) : Se := ⟨fnum b, (fN b : Int), fsl b, gsu b, sv, gv⟩
def Se0 : Se := ⟨0, 0, [], [], .slice none 0 0, .slice none 0 0⟩
theorem decode_good (kv bv : Value) (key b : List UInt8) (w : World) (hB : Bs w bv b) (hK : Bs w kv key) (hk0 : key.length ≤ 2147483648) (hb : b.length ≤ 1073741824) (hg : good key b = true) :
    Calls Try.prog 68 #[kv, bv] w fun e w' => ∃ sv gv, e = .returned (.tuple #[(mkSe b sv gv).v, .int .i64 0]) ∧ SeR w' (mkSe b sv gv) ∧ Ext w w' :=
  (decode_any kv bv key b w hB hK hk0 hb).mono fun e w' ⟨x, c, he, hr, hx, hd⟩ => by
    rcases hd with ⟨_, rfl, h1, h2, h3, h4⟩ | ⟨h, _⟩
    · obtain ⟨n, bl, sl, su, sv, gv⟩ := x
      simp only at h1 h2 h3 h4
      subst h1; subst h2; subst h3; subst h4
      exact ⟨sv, gv, he, hr, hx⟩
    · rw [hg] at h; cases h
theorem decode_bad (kv bv : Value) (key b : List UInt8) (w : World) (hB : Bs w bv b) (hK : Bs w kv key) (hk0 : key.length ≤ 2147483648) (hb : b.length ≤ 1073741824) (hg : good key b = false) :
    Calls Try.prog 68 #[kv, bv] w fun e w' => e = .returned (.tuple #[Z68, .int .i64 5]) ∧ Ext w w' :=
  (decode_any kv bv key b w hB hK hk0 hb).mono fun e w' ⟨x, c, he, hr, hx, hd⟩ => by
    rcases hd with ⟨h, _⟩ | ⟨_, rfl, rfl⟩
    · rw [hg] at h; cases h
    · exact ⟨he, hx⟩
theorem rdecode_good (kv bv : Value) (key b : List UInt8) (w : World) (hB : Bs w bv b) (hK : Bs w kv key) (hk0 : key.length ≤ 2147483648) (hb : b.length ≤ 1073741824) (hg : good key b = true) :
    Calls Try.prog 70 #[kv, bv] w fun e w' => ∃ sv gv, e = .returned (.tuple #[(mkSe b sv gv).v, .int .i64 0]) ∧ SeR w' (mkSe b sv gv) ∧ Ext w w' :=
  (rdecode_any kv bv key b w hB hK hk0 hb).mono fun e w' ⟨x, c, he, hr, hx, hd⟩ => by
    rcases hd with ⟨_, rfl, h1, h2, h3, h4⟩ | ⟨h, _⟩
    · obtain ⟨n, bl, sl, su, sv, gv⟩ := x
      simp only at h1 h2 h3 h4
      subst h1; subst h2; subst h3; subst h4
      exact ⟨sv, gv, he, hr, hx⟩
    · rw [hg] at h; cases h
theorem rdecode_bad (kv bv : Value) (key b : List UInt8) (w : World) (hB : Bs w bv b) (hK : Bs w kv key) (hk0 : key.length ≤ 2147483648) (hb : b.length ≤ 1073741824) (hg : good key b = false) :
    Calls Try.prog 70 #[kv, bv] w fun e w' => e = .returned (.tuple #[Z68, .int .i64 5]) ∧ Ext w w' :=
  (rdecode_any kv bv key b w hB hK hk0 hb).mono fun e w' ⟨x, c, he, hr, hx, hd⟩ => by
    rcases hd with ⟨h, _⟩ | ⟨_, rfl, rfl⟩
    · rw [hg] at h; cases h
    · exact ⟨he, hx⟩

/-! ### Which one. -/
def pick (key : List UInt8) (n : Nat) (ls : List (List UInt8)) : Option (List UInt8) := ls.find? (fun b => good key b && decide (fnum b = n))
def chosen (key : List UInt8) (c : Nat) (ls : List (List UInt8)) : Option (List UInt8) :=
  match (if c < 18446744073709551615 then pick key (c + 1) ls else none) with
  | some b => some b
  | none => pick key c ls
def Says (o : Option (List UInt8)) (x : Se) (c : Int) : Prop := (∃ b sv gv, o = some b ∧ x = mkSe b sv gv ∧ c = 0) ∨ (o = none ∧ x = Se0 ∧ c = 5)
theorem pick_next (key : List UInt8) (n : Nat) (ls : List (List UInt8)) (k : Nat) (hk : k < ls.length) :
    pick key n (ls.take (k + 1)) = (pick key n (ls.take k)).or (if good key (ls.getD k []) && decide (fnum (ls.getD k []) = n) then some (ls.getD k []) else none) := by
  unfold pick
  rw [take_snoc_d ls k hk, List.find?_append]
  congr 1
  simp only [List.find?_cons, List.find?_nil]
  cases good key (ls.getD k []) && decide (fnum (ls.getD k []) = n) <;> rfl
theorem pick_early (key : List UInt8) (n : Nat) (ls : List (List UInt8)) (m : Nat) (b : List UInt8) (h : pick key n (ls.take m) = some b) : pick key n ls = some b := by
  unfold pick at *
  rw [← List.take_append_drop m ls, List.find?_append, h]
  rfl
theorem chosen_next (key : List UInt8) (c : Nat) (ls : List (List UInt8)) (b : List UInt8) (hc : c < 18446744073709551615) (h : pick key (c + 1) ls = some b) : chosen key c ls = some b := by
  unfold chosen
  rw [if_pos hc, h]
theorem chosen_now (key : List UInt8) (c : Nat) (ls : List (List UInt8)) (h : c < 18446744073709551615 → pick key (c + 1) ls = none) : chosen key c ls = pick key c ls := by
  unfold chosen
  by_cases hc : c < 18446744073709551615
  · rw [if_pos hc, h hc]
  · rw [if_neg hc]

/-! ### Beside a block of a seal. -/
abbrev seRow (x : Se) : Array Value := row68 (.int .u64 (x.num : Int)) (.int .i64 x.blk) x.sv x.gv
theorem seRow_one {w : World} {x : Se} (h : SeR w x) : (seRow x).all (·.oneCell') = true := by
  obtain ⟨n, bl, sl, su, sv, gv⟩ := x
  obtain ⟨A, c, e1, _⟩ := h.sl.is
  obtain ⟨A2, c2, e2, _⟩ := h.su.rd.is
  simp only at e1 e2
  subst e1; subst e2
  simp [seRow, row68, Value.oneCell']
theorem bytes_off68 {w : World} {sz n g : Nat} {v : Value} {L : List UInt8} {x : Se} (h : Rd w sz v n (L.map B8)) (hsz : 0 < sz) (hx : SeR w x) (hg : At68 w g (seRow x)) : ∀ b o c, v = .slice (some ⟨b, o, none⟩) n c → 0 < n → b ≠ g := by
  intro b o c hv hn hbg
  subst hv; subst hbg
  obtain ⟨b', o', c', hA, _, _, _, hcell⟩ := h.pos hn
  injection hA with e1 e2 e3
  injection e1 with e1
  injection e1 with e4 e5 e6
  subst e4; subst e5
  have hlen : L.length = n * sz := by have := h.len; simpa using this
  have hpos : 0 < L.length := by rw [hlen]; exact Nat.mul_pos hn hsz
  have h0 := hcell 0 (B8 (L.getD 0 0)) (by rw [List.getElem?_map, List.getElem?_eq_getElem hpos]; simp [List.getD, hpos])
  rw [Nat.add_zero, cell_of_row _ _ _ _ _ _ hg] at h0
  obtain ⟨nn, bl, sl, su, sv, gv⟩ := x
  obtain ⟨A, c1, e1, _⟩ := hx.sl.is
  obtain ⟨A2, c2, e2, _⟩ := hx.su.rd.is
  simp only at e1 e2
  subst e1; subst e2
  simp only [seRow, row68] at h0
  match o, h0 with
  | 0, h0 => simp at h0
  | 1, h0 => simp at h0
  | 2, h0 => simp at h0
  | 3, h0 => simp at h0
  | k + 4, h0 => simp at h0
theorem SeR.upd68 {w w' : World} {x y : Se} {g : Nat} (h : SeR w x) (hu : Upd w w' g) (hy : SeR w y) (hg : At68 w g (seRow y)) : SeR w' x :=
  ⟨h.sl.chg (Chg.of_upd hu) (fun b o c hv hn e => bytes_off68 h.sl (by decide) hy hg b o c hv hn e),
   ⟨h.su.rd.chg (Chg.of_upd hu) (fun b o c hv hn e => bytes_off68 (L := x.su.flatten) h.su.rd (by decide) hy hg b o c hv hn e), h.su.all⟩, h.num, h.lo, h.hi⟩
theorem se0_r (w : World) : SeR w Se0 := ⟨Rd.nil _ _, ⟨Rd.nil _ _, by intro d hd; cases hd⟩, by decide, by decide, by decide⟩
theorem mkSe_lo (b : List UInt8) (sv gv : Value) : (mkSe b sv gv).num = fnum b := rfl
end Go.Proofs.Ytapojpjmeadabaa
end

section
/- seal.Choose. -/
namespace Go.Proofs.Ytapojpjmeadabaa
open Go.RowKit
set_option linter.unusedVariables false
set_option linter.unusedSimpArgs false
attribute [local go_sem] lt_ext cell?_ext frozen?_ext shape?_ext

set_option maxRecDepth 100000 in
set_option maxHeartbeats 8000000 in
theorem choose_any (kv lv : Value) (key : List UInt8) (ct : Nat) (vs : List Value) (ls : List (List UInt8)) (w : World) (hK : Bs w kv key) (hk0 : key.length ≤ 2147483648) (hct : ct ≤ 18446744073709551615) (hL : Rss w lv vs ls) (hb : ∀ b ∈ ls, b.length ≤ 1073741824) :
    Calls Try.prog 71 #[kv, .int .u64 (ct : Int), lv] w fun e w' => ∃ x c, e = .returned (.tuple #[x.v, .int .i64 c]) ∧ SeR w' x ∧ Ext w w' ∧ Says (chosen key ct ls) x c := by
  obtain ⟨A, cap, rfl, hcap, hcm, _, _⟩ := hL.rd.is
  have hlm : ls.length ≤ maxLen := Nat.le_trans hcap hcm
  unfold maxLen at hlm
  have HL := Lib.hid hL
  have HK := Lib.hid hK
  have HBL := Lib.hid hb
  clear hL hK hb
  go_enter Try.func71, Try.ntmps71
  go_wp2
  go_step3
  go_wp2
  go_step3
  go_wp2
  have h6 : At68 ((w.alloc (.cells #[.int .u64 0, .int .i64 0, .slice none 0 0, .slice none 0 0] 68)).alloc (.cells #[.int .u64 0, .int .i64 0, .slice none 0 0, .slice none 0 0] 68)) w.heap.size z68 := At68.ext (heap_alloc_last w _) ((Ext.refl _).alloc _)
  have h8 : At68 ((w.alloc (.cells #[.int .u64 0, .int .i64 0, .slice none 0 0, .slice none 0 0] 68)).alloc (.cells #[.int .u64 0, .int .i64 0, .slice none 0 0, .slice none 0 0] 68)) (w.heap.size + 1) (seRow Se0) := by
    have h := heap_alloc_last (w.alloc (.cells #[.int .u64 0, .int .i64 0, .slice none 0 0, .slice none 0 0] 68)) (.cells #[.int .u64 0, .int .i64 0, .slice none 0 0, .slice none 0 0] 68)
    rw [World.size_alloc] at h
    exact h
  have hx0 : Ext w ((w.alloc (.cells #[.int .u64 0, .int .i64 0, .slice none 0 0, .slice none 0 0] 68)).alloc (.cells #[.int .u64 0, .int .i64 0, .slice none 0 0, .slice none 0 0] 68)) := ((Ext.refl w).alloc _).alloc _
  generalize (w.alloc (.cells #[.int .u64 0, .int .i64 0, .slice none 0 0, .slice none 0 0] 68)).alloc (.cells #[.int .u64 0, .int .i64 0, .slice none 0 0, .slice none 0 0] 68) = W0 at *
  have H6 := Lib.hid h6
  have H8 := Lib.hid h8
  have HX0 := Lib.hid hx0
  clear h6 h8 hx0
  go_loopw [16, 9] (fun i er wr => ∃ (k : Nat) (x : Se) (c : Int), k ≤ ls.length ∧ i = .int .i64 k ∧ er = .int .i64 c ∧ At68 wr (w.heap.size + 1) (seRow x) ∧ SeR wr x ∧ At68 wr w.heap.size z68 ∧ Ext w wr ∧ Says (pick key ct (ls.take k)) x c ∧ (ct < 18446744073709551615 → pick key (ct + 1) (ls.take k) = none)) (fun i _ _ => ls.length - (intOf i).toNat)
  case atStart => exact ⟨0, Se0, 5, by omega, rfl, rfl, H8.out, se0_r _, H6.out, HX0.out, .inr ⟨rfl, rfl, rfl⟩, fun _ => rfl⟩
  case round =>
    obtain ⟨k, x, c, hk, rfl, rfl, hg8, hsx, hg6, hxr, hsy, hnn⟩ := hrel
    have hs6 := hg6.lt
    have hs8 := hg8.lt
    have HG8 := Lib.hid hg8
    have HSX := Lib.hid hsx
    have HG6 := Lib.hid hg6
    have HXR := Lib.hid hxr
    have HSY := Lib.hid hsy
    have HNN := Lib.hid hnn
    clear hg8 hsx hg6 hxr hsy hnn
    by_cases hlt : k < ls.length
    · obtain ⟨b0, o, cap', hA, _, _, hbl, hcell⟩ := HL.out.rd.pos (by omega)
      injection hA with hA1 hA2 hA3
      subst hA1
      subst hA3
      obtain ⟨u, hu, hub⟩ := HL.out.each k hlt
      have hc := (HXR.out.cell b0 (o + k) hbl).trans (hcell k u hu)
      have HU := Lib.hid (Rd.ext hub HXR.out)
      have hbb : (ls.getD k []).length ≤ 1073741824 := by
        have : ls.getD k [] = ls[k] := by simp [List.getD, hlt]
        rw [this]; exact HBL.out _ (List.getElem_mem hlt)
      have HP1 := Lib.hid (pick_next key ct ls k hlt)
      have HP2 := Lib.hid (pick_next key (ct + 1) ls k hlt)
      have HKR := Lib.hid (Rd.ext HK.out HXR.out)
      obtain ⟨b, hbq⟩ : ∃ b, ls.getD k [] = b := ⟨_, rfl⟩
      rw [hbq] at HU HP1 HP2 hbb
      clear hcell hu hub hbq
      cases hgd : good key b with
      | false =>
        have HDE := Lib.hid (decode_bad kv u key b wr HU.out HKR.out hk0 hbb hgd)
        have HQ1 : Hid (pick key ct (ls.take (k + 1)) = pick key ct (ls.take k)) := Lib.hid (by rw [HP1.out, hgd]; simp)
        have HQ2 : Hid (pick key (ct + 1) (ls.take (k + 1)) = pick key (ct + 1) (ls.take k)) := Lib.hid (by rw [HP2.out, hgd]; simp)
        clear hgd
        go_wp2_with (first | (go_at_call 68; go_must (refine HDE.out.mono ?_; rintro e w2 ⟨rfl, hx2⟩; have HX2 := Lib.hid hx2; clear hx2)) | (refine wpl_store68 rfl _ _ rfl w2.heap.size (.int .u64 0) (.int .i64 0) (.slice none 0 0) (.slice none 0 0) (.int .u64 0) (.int .i64 0) (.slice none 0 0) (.slice none 0 0) rfl rfl (by simp [row68, Value.oneCell']) (heap_alloc_last w2 _) ?_; intro w3 h3 hu3; have hx3 : Ext w2 w3 := ((Ext.refl w2).alloc _).upd_new hu3 (Nat.le_refl _); have HX3 := Lib.hid (HX2.out.trans hx3); clear h3 hu3 hx3))
        go_roundw
        case rel => exact ⟨k + 1, x, c, by omega, by go_num, rfl, HG8.out.ext HX3.out, HSX.out.ext HX3.out, HG6.out.ext HX3.out, HXR.out.trans HX3.out, (by rw [HQ1.out]; exact HSY.out), (by rw [HQ2.out]; exact HNN.out)⟩
        case measure => (simp [intOf] <;> omega)
      | true =>
        have HDE := Lib.hid (decode_good kv u key b wr HU.out HKR.out hk0 hbb hgd)
        have hp1 := HP1.out
        have hp2 := HP2.out
        rw [hgd, Bool.true_and] at hp1 hp2
        have TB : True := trivial
        by_cases hmx : ct < 18446744073709551615
        · have hwr : IntKind.u64.wrap ((ct : Int) + 1) = (ct : Int) + 1 := by rw [IntKind.wrap_u64]; omega
          have hwr2 : ((ct : Int) + 1) % 18446744073709551616 = (ct : Int) + 1 := by omega
          by_cases hm1 : fnum b = ct + 1
          · have hpk : pick key (ct + 1) ls = some b := pick_early key (ct + 1) ls (k + 1) b (by rw [hp2, HNN.out hmx, decide_eq_true hm1]; rfl)
            have HCH := Lib.hid (chosen_next key ct ls b hmx hpk)
            have hmi : (fnum b : Int) = (ct : Int) + 1 := by omega
            clear hp1 hp2 hgd hpk hm1
            have TD : True := trivial
            go_wp2_with (first | (go_at_call 68; go_must (refine HDE.out.mono ?_; rintro e w2 ⟨sv, gv, rfl, hr2, hx2⟩; have HR2 := Lib.hid hr2; have HX2 := Lib.hid hx2; clear hr2 hx2)) | (clear TB; refine wpl_store68 rfl _ _ rfl w2.heap.size (.int .u64 (fnum b : Int)) (.int .i64 (fN b : Int)) sv gv (.int .u64 0) (.int .i64 0) (.slice none 0 0) (.slice none 0 0) rfl rfl (seRow_one HR2.out) (heap_alloc_last w2 _) ?_; intro w3 h3 hu3; have hx3 : Ext w2 w3 := ((Ext.refl w2).alloc _).upd_new hu3 (Nat.le_refl _); have HX3 := Lib.hid (HX2.out.trans hx3); have HR3 := Lib.hid (HR2.out.ext hx3); have HG3 : Hid (At68 w3 w2.heap.size (seRow (mkSe b sv gv))) := Lib.hid h3; have hs3 := HG3.out.lt; have cg0 : w3.cell? ⟨w2.heap.size, 0, none⟩ = some (.int .u64 (fnum b : Int)) := (by rw [cell_of_row _ _ _ _ _ _ h3]; rfl); clear h3 hu3 hx3) | (refine wpl_load68 rfl _ rfl w2.heap.size rfl _ _ _ _ HG3.out ?_) | (refine wpl_store68 rfl _ _ rfl w.heap.size (.int .u64 (fnum b : Int)) (.int .i64 (fN b : Int)) sv gv _ _ _ _ rfl rfl (seRow_one HR3.out) (HG6.out.ext HX3.out) ?_; intro w4 h4 hu4; have HG4 : Hid (At68 w4 w.heap.size (seRow (mkSe b sv gv))) := Lib.hid h4; have HU4 := Lib.hid hu4; clear h4 hu4))
            rw [Exit.noGoto_ret]
            refine ret68t rfl w.heap.size _ _ _ _ _ rfl rfl HG4.out rfl ⟨mkSe b sv gv, 0, rfl, HR3.out.upd68 HU4.out (se0_r _) (HG6.out.ext HX3.out), (HXR.out.trans HX3.out).upd_new HU4.out (Nat.le_refl _), ?_⟩
            rw [HCH.out]
            exact .inl ⟨b, sv, gv, rfl, rfl, rfl⟩
          · have hni : ¬ ((fnum b : Int) = (ct : Int) + 1) := by omega
            have HQ2 : Hid (ct < 18446744073709551615 → pick key (ct + 1) (ls.take (k + 1)) = none) := Lib.hid (fun h => by rw [hp2, HNN.out h, decide_eq_false hm1]; rfl)
            by_cases hm2 : fnum b = ct
            · have hm2i : (fnum b : Int) = (ct : Int) := by omega
              rcases HSY.out with ⟨b', sv', gv', ho, hx, rfl⟩ | ⟨ho, hx, rfl⟩
              · have HQ1 : Hid (pick key ct (ls.take (k + 1)) = pick key ct (ls.take k)) := Lib.hid (by rw [hp1, ho]; rfl)
                clear hp1 hp2 hgd hm1 hm2 ho hx
                go_wp2_with (first | (go_at_call 68; go_must (refine HDE.out.mono ?_; rintro e w2 ⟨sv, gv, rfl, hr2, hx2⟩; have HR2 := Lib.hid hr2; have HX2 := Lib.hid hx2; clear hr2 hx2; have TB : True := trivial)) | (clear TB; refine wpl_store68 rfl _ _ rfl w2.heap.size (.int .u64 (fnum b : Int)) (.int .i64 (fN b : Int)) sv gv (.int .u64 0) (.int .i64 0) (.slice none 0 0) (.slice none 0 0) rfl rfl (seRow_one HR2.out) (heap_alloc_last w2 _) ?_; intro w3 h3 hu3; have hx3 : Ext w2 w3 := ((Ext.refl w2).alloc _).upd_new hu3 (Nat.le_refl _); have HX3 := Lib.hid (HX2.out.trans hx3); have HR3 := Lib.hid (HR2.out.ext hx3); have HG3 : Hid (At68 w3 w2.heap.size (seRow (mkSe b sv gv))) := Lib.hid h3; have hs3 := HG3.out.lt; have cg0 : w3.cell? ⟨w2.heap.size, 0, none⟩ = some (.int .u64 (fnum b : Int)) := (by rw [cell_of_row _ _ _ _ _ _ h3]; rfl); clear h3 hu3 hx3; have TC : True := trivial) )
                go_roundw
                case rel => exact ⟨k + 1, x, 0, by omega, by go_num, rfl, HG8.out.ext HX3.out, HSX.out.ext HX3.out, HG6.out.ext HX3.out, HXR.out.trans HX3.out, (by rw [HQ1.out]; exact HSY.out), HQ2.out⟩
                case measure => (simp [intOf] <;> omega)
              · have HQ1 : Hid (pick key ct (ls.take (k + 1)) = some b) := Lib.hid (by rw [hp1, ho, decide_eq_true hm2]; rfl)
                clear hp1 hp2 hgd hm1 hm2 ho hx
                go_wp2_with (first | (go_at_call 68; go_must (refine HDE.out.mono ?_; rintro e w2 ⟨sv, gv, rfl, hr2, hx2⟩; have HR2 := Lib.hid hr2; have HX2 := Lib.hid hx2; clear hr2 hx2; have TB : True := trivial)) | (clear TB; refine wpl_store68 rfl _ _ rfl w2.heap.size (.int .u64 (fnum b : Int)) (.int .i64 (fN b : Int)) sv gv (.int .u64 0) (.int .i64 0) (.slice none 0 0) (.slice none 0 0) rfl rfl (seRow_one HR2.out) (heap_alloc_last w2 _) ?_; intro w3 h3 hu3; have hx3 : Ext w2 w3 := ((Ext.refl w2).alloc _).upd_new hu3 (Nat.le_refl _); have HX3 := Lib.hid (HX2.out.trans hx3); have HR3 := Lib.hid (HR2.out.ext hx3); have HG3 : Hid (At68 w3 w2.heap.size (seRow (mkSe b sv gv))) := Lib.hid h3; have hs3 := HG3.out.lt; have cg0 : w3.cell? ⟨w2.heap.size, 0, none⟩ = some (.int .u64 (fnum b : Int)) := (by rw [cell_of_row _ _ _ _ _ _ h3]; rfl); clear h3 hu3 hx3; have TC : True := trivial) | (refine wpl_load68 rfl _ rfl w2.heap.size rfl _ _ _ _ HG3.out ?_) | (clear TC; refine wpl_store68 rfl _ _ rfl (w.heap.size + 1) (.int .u64 (fnum b : Int)) (.int .i64 (fN b : Int)) sv gv _ _ _ _ rfl rfl (seRow_one HR3.out) (HG8.out.ext HX3.out) ?_; intro w4 h4 hu4; have HG4 : Hid (At68 w4 (w.heap.size + 1) (seRow (mkSe b sv gv))) := Lib.hid h4; have HU4 := Lib.hid hu4; clear h4 hu4))
                go_roundw
                case rel => exact ⟨k + 1, (mkSe b sv gv), 0, by omega, by go_num, rfl, HG4.out, HR3.out.upd68 HU4.out (HSX.out.ext HX3.out) (HG8.out.ext HX3.out), (HU4.out.old (HG6.out.ext HX3.out).lt (by omega)).trans (HG6.out.ext HX3.out), (HXR.out.trans HX3.out).upd_new HU4.out (by omega), .inl ⟨b, sv, gv, HQ1.out, rfl, rfl⟩, HQ2.out⟩
                case measure => (simp [intOf] <;> omega)
            · have hm2i : ¬ (fnum b : Int) = (ct : Int) := by omega
              have HQ1 : Hid (pick key ct (ls.take (k + 1)) = pick key ct (ls.take k)) := Lib.hid (by rw [hp1, decide_eq_false hm2]; simp)
              clear hp1 hp2 hgd hm1 hm2
              go_wp2_with (first | (go_at_call 68; go_must (refine HDE.out.mono ?_; rintro e w2 ⟨sv, gv, rfl, hr2, hx2⟩; have HR2 := Lib.hid hr2; have HX2 := Lib.hid hx2; clear hr2 hx2; have TB : True := trivial)) | (clear TB; refine wpl_store68 rfl _ _ rfl w2.heap.size (.int .u64 (fnum b : Int)) (.int .i64 (fN b : Int)) sv gv (.int .u64 0) (.int .i64 0) (.slice none 0 0) (.slice none 0 0) rfl rfl (seRow_one HR2.out) (heap_alloc_last w2 _) ?_; intro w3 h3 hu3; have hx3 : Ext w2 w3 := ((Ext.refl w2).alloc _).upd_new hu3 (Nat.le_refl _); have HX3 := Lib.hid (HX2.out.trans hx3); have HR3 := Lib.hid (HR2.out.ext hx3); have HG3 : Hid (At68 w3 w2.heap.size (seRow (mkSe b sv gv))) := Lib.hid h3; have hs3 := HG3.out.lt; have cg0 : w3.cell? ⟨w2.heap.size, 0, none⟩ = some (.int .u64 (fnum b : Int)) := (by rw [cell_of_row _ _ _ _ _ _ h3]; rfl); clear h3 hu3 hx3; have TC : True := trivial) )
              go_roundw
              case rel => exact ⟨k + 1, x, c, by omega, by go_num, rfl, HG8.out.ext HX3.out, HSX.out.ext HX3.out, HG6.out.ext HX3.out, HXR.out.trans HX3.out, (by rw [HQ1.out]; exact HSY.out), HQ2.out⟩
              case measure => (simp [intOf] <;> omega)
        · have hwr : IntKind.u64.wrap ((ct : Int) + 1) = 0 := by rw [IntKind.wrap_u64]; omega
          have hwr2 : ((ct : Int) + 1) % 18446744073709551616 = 0 := by omega
          have HQ2 : Hid (ct < 18446744073709551615 → pick key (ct + 1) (ls.take (k + 1)) = none) := Lib.hid (fun h => absurd h hmx)
          have hc0 : ¬ (0 = (ct : Int)) := by omega
          by_cases hm0 : fnum b = 0
          · have hm0i : (fnum b : Int) = 0 := by omega
            have HQ1 : Hid (pick key ct (ls.take (k + 1)) = pick key ct (ls.take k)) := Lib.hid (by rw [hp1, decide_eq_false (by omega)]; simp)
            clear hp1 hp2 hgd hm0
            go_wp2_with (first | (go_at_call 68; go_must (refine HDE.out.mono ?_; rintro e w2 ⟨sv, gv, rfl, hr2, hx2⟩; have HR2 := Lib.hid hr2; have HX2 := Lib.hid hx2; clear hr2 hx2; have TB : True := trivial)) | (clear TB; refine wpl_store68 rfl _ _ rfl w2.heap.size (.int .u64 (fnum b : Int)) (.int .i64 (fN b : Int)) sv gv (.int .u64 0) (.int .i64 0) (.slice none 0 0) (.slice none 0 0) rfl rfl (seRow_one HR2.out) (heap_alloc_last w2 _) ?_; intro w3 h3 hu3; have hx3 : Ext w2 w3 := ((Ext.refl w2).alloc _).upd_new hu3 (Nat.le_refl _); have HX3 := Lib.hid (HX2.out.trans hx3); have HR3 := Lib.hid (HR2.out.ext hx3); have HG3 : Hid (At68 w3 w2.heap.size (seRow (mkSe b sv gv))) := Lib.hid h3; have hs3 := HG3.out.lt; have cg0 : w3.cell? ⟨w2.heap.size, 0, none⟩ = some (.int .u64 (fnum b : Int)) := (by rw [cell_of_row _ _ _ _ _ _ h3]; rfl); clear h3 hu3 hx3; have TC : True := trivial) )
            go_roundw
            case rel => exact ⟨k + 1, x, c, by omega, by go_num, rfl, HG8.out.ext HX3.out, HSX.out.ext HX3.out, HG6.out.ext HX3.out, HXR.out.trans HX3.out, (by rw [HQ1.out]; exact HSY.out), HQ2.out⟩
            case measure => (simp [intOf] <;> omega)
          · have hm0i : ¬ (fnum b : Int) = 0 := by omega
            by_cases hm2 : fnum b = ct
            · have hm2i : (fnum b : Int) = (ct : Int) := by omega
              have hc1 : ¬ ((ct : Int) = 0) := by omega
              rcases HSY.out with ⟨b', sv', gv', ho, hx, rfl⟩ | ⟨ho, hx, rfl⟩
              · have HQ1 : Hid (pick key ct (ls.take (k + 1)) = pick key ct (ls.take k)) := Lib.hid (by rw [hp1, ho]; rfl)
                clear hp1 hp2 hgd hm2 ho hx hm0
                go_wp2_with (first | (go_at_call 68; go_must (refine HDE.out.mono ?_; rintro e w2 ⟨sv, gv, rfl, hr2, hx2⟩; have HR2 := Lib.hid hr2; have HX2 := Lib.hid hx2; clear hr2 hx2; have TB : True := trivial)) | (clear TB; refine wpl_store68 rfl _ _ rfl w2.heap.size (.int .u64 (fnum b : Int)) (.int .i64 (fN b : Int)) sv gv (.int .u64 0) (.int .i64 0) (.slice none 0 0) (.slice none 0 0) rfl rfl (seRow_one HR2.out) (heap_alloc_last w2 _) ?_; intro w3 h3 hu3; have hx3 : Ext w2 w3 := ((Ext.refl w2).alloc _).upd_new hu3 (Nat.le_refl _); have HX3 := Lib.hid (HX2.out.trans hx3); have HR3 := Lib.hid (HR2.out.ext hx3); have HG3 : Hid (At68 w3 w2.heap.size (seRow (mkSe b sv gv))) := Lib.hid h3; have hs3 := HG3.out.lt; have cg0 : w3.cell? ⟨w2.heap.size, 0, none⟩ = some (.int .u64 (fnum b : Int)) := (by rw [cell_of_row _ _ _ _ _ _ h3]; rfl); clear h3 hu3 hx3; have TC : True := trivial) )
                go_roundw
                case rel => exact ⟨k + 1, x, 0, by omega, by go_num, rfl, HG8.out.ext HX3.out, HSX.out.ext HX3.out, HG6.out.ext HX3.out, HXR.out.trans HX3.out, (by rw [HQ1.out]; exact HSY.out), HQ2.out⟩
                case measure => (simp [intOf] <;> omega)
              · have HQ1 : Hid (pick key ct (ls.take (k + 1)) = some b) := Lib.hid (by rw [hp1, ho, decide_eq_true hm2]; rfl)
                clear hp1 hp2 hgd hm2 ho hx hm0
                go_wp2_with (first | (go_at_call 68; go_must (refine HDE.out.mono ?_; rintro e w2 ⟨sv, gv, rfl, hr2, hx2⟩; have HR2 := Lib.hid hr2; have HX2 := Lib.hid hx2; clear hr2 hx2; have TB : True := trivial)) | (clear TB; refine wpl_store68 rfl _ _ rfl w2.heap.size (.int .u64 (fnum b : Int)) (.int .i64 (fN b : Int)) sv gv (.int .u64 0) (.int .i64 0) (.slice none 0 0) (.slice none 0 0) rfl rfl (seRow_one HR2.out) (heap_alloc_last w2 _) ?_; intro w3 h3 hu3; have hx3 : Ext w2 w3 := ((Ext.refl w2).alloc _).upd_new hu3 (Nat.le_refl _); have HX3 := Lib.hid (HX2.out.trans hx3); have HR3 := Lib.hid (HR2.out.ext hx3); have HG3 : Hid (At68 w3 w2.heap.size (seRow (mkSe b sv gv))) := Lib.hid h3; have hs3 := HG3.out.lt; have cg0 : w3.cell? ⟨w2.heap.size, 0, none⟩ = some (.int .u64 (fnum b : Int)) := (by rw [cell_of_row _ _ _ _ _ _ h3]; rfl); clear h3 hu3 hx3; have TC : True := trivial) | (refine wpl_load68 rfl _ rfl w2.heap.size rfl _ _ _ _ HG3.out ?_) | (clear TC; refine wpl_store68 rfl _ _ rfl (w.heap.size + 1) (.int .u64 (fnum b : Int)) (.int .i64 (fN b : Int)) sv gv _ _ _ _ rfl rfl (seRow_one HR3.out) (HG8.out.ext HX3.out) ?_; intro w4 h4 hu4; have HG4 : Hid (At68 w4 (w.heap.size + 1) (seRow (mkSe b sv gv))) := Lib.hid h4; have HU4 := Lib.hid hu4; clear h4 hu4))
                go_roundw
                case rel => exact ⟨k + 1, (mkSe b sv gv), 0, by omega, by go_num, rfl, HG4.out, HR3.out.upd68 HU4.out (HSX.out.ext HX3.out) (HG8.out.ext HX3.out), (HU4.out.old (HG6.out.ext HX3.out).lt (by omega)).trans (HG6.out.ext HX3.out), (HXR.out.trans HX3.out).upd_new HU4.out (by omega), .inl ⟨b, sv, gv, HQ1.out, rfl, rfl⟩, HQ2.out⟩
                case measure => (simp [intOf] <;> omega)
            · have hm2i : ¬ (fnum b : Int) = (ct : Int) := by omega
              have HQ1 : Hid (pick key ct (ls.take (k + 1)) = pick key ct (ls.take k)) := Lib.hid (by rw [hp1, decide_eq_false hm2]; simp)
              clear hp1 hp2 hgd hm2 hm0
              go_wp2_with (first | (go_at_call 68; go_must (refine HDE.out.mono ?_; rintro e w2 ⟨sv, gv, rfl, hr2, hx2⟩; have HR2 := Lib.hid hr2; have HX2 := Lib.hid hx2; clear hr2 hx2; have TB : True := trivial)) | (clear TB; refine wpl_store68 rfl _ _ rfl w2.heap.size (.int .u64 (fnum b : Int)) (.int .i64 (fN b : Int)) sv gv (.int .u64 0) (.int .i64 0) (.slice none 0 0) (.slice none 0 0) rfl rfl (seRow_one HR2.out) (heap_alloc_last w2 _) ?_; intro w3 h3 hu3; have hx3 : Ext w2 w3 := ((Ext.refl w2).alloc _).upd_new hu3 (Nat.le_refl _); have HX3 := Lib.hid (HX2.out.trans hx3); have HR3 := Lib.hid (HR2.out.ext hx3); have HG3 : Hid (At68 w3 w2.heap.size (seRow (mkSe b sv gv))) := Lib.hid h3; have hs3 := HG3.out.lt; have cg0 : w3.cell? ⟨w2.heap.size, 0, none⟩ = some (.int .u64 (fnum b : Int)) := (by rw [cell_of_row _ _ _ _ _ _ h3]; rfl); clear h3 hu3 hx3; have TC : True := trivial) )
              go_roundw
              case rel => exact ⟨k + 1, x, c, by omega, by go_num, rfl, HG8.out.ext HX3.out, HSX.out.ext HX3.out, HG6.out.ext HX3.out, HXR.out.trans HX3.out, (by rw [HQ1.out]; exact HSY.out), HQ2.out⟩
              case measure => (simp [intOf] <;> omega)
    · obtain rfl : k = ls.length := by omega
      have hsy := HSY.out
      have hnn := HNN.out
      rw [List.take_length] at hsy hnn
      rw [← chosen_now key ct ls hnn] at hsy
      have HSS := Lib.hid hsy
      clear hsy hnn
      go_wp2_with (first | (refine wpl_load68 rfl _ rfl (w.heap.size + 1) rfl _ _ _ _ HG8.out ?_) | (refine wpl_store68 rfl _ _ rfl w.heap.size (.int .u64 (x.num : Int)) (.int .i64 x.blk) x.sv x.gv _ _ _ _ rfl rfl (seRow_one HSX.out) HG6.out ?_; intro w4 h4 hu4; have HG4 : Hid (At68 w4 w.heap.size (seRow x)) := Lib.hid h4; have HU4 := Lib.hid hu4; clear h4 hu4))
      rw [Exit.noGoto_ret]
      exact ret68t rfl w.heap.size _ _ _ _ _ rfl rfl HG4.out rfl ⟨x, c, rfl, HSX.out.upd68 HU4.out (se0_r _) HG6.out, HXR.out.upd_new HU4.out (Nat.le_refl _), HSS.out⟩
end Go.Proofs.Ytapojpjmeadabaa
end

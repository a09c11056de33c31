/- Cho3, Known8: several texts in one. -/
import Derived.Test.YtapojpjmeadabaaZCho1
import Derived.Test.YtapojpjmeadabaaZSeal5
section
/- sacristanref08.Choose. -/
namespace Go.Proofs.Ytapojpjmeadabaa
open Go.RowKit
set_option linter.unusedVariables false
set_option linter.unusedSimpArgs false
attribute [local go_sem] lt_ext cell?_ext frozen?_ext shape?_ext

set_option maxRecDepth 100000 in
set_option maxHeartbeats 8000000 in
theorem rchoose_any (kv lv : Value) (key : List UInt8) (ct : Nat) (vs : List Value) (ls : List (List UInt8)) (w : World) (hK : Bs w kv key) (hk0 : key.length ≤ 2147483648) (hct : ct ≤ 18446744073709551615) (hL : Rss w lv vs ls) (hb : ∀ b ∈ ls, b.length ≤ 1073741824) :
    Calls Try.prog 72 #[kv, .int .u64 (ct : Int), lv] w fun e w' => ∃ x c, e = .returned (.tuple #[x.v, .int .i64 c]) ∧ SeR w' x ∧ Ext w w' ∧ Says (chosen key ct ls) x c := by
  obtain ⟨A, cap, rfl, hcap, hcm, _, _⟩ := hL.rd.is
  have hlm : ls.length ≤ maxLen := Nat.le_trans hcap hcm
  unfold maxLen at hlm
  have HL := Lib.hid hL
  have HK := Lib.hid hK
  have HBL := Lib.hid hb
  clear hL hK hb
  go_enter Try.func72, Try.ntmps72
  go_wp2
  have h6 : At68 (w.alloc (.cells #[.int .u64 0, .int .i64 0, .slice none 0 0, .slice none 0 0] 68)) w.heap.size z68 := heap_alloc_last w _
  have hx0 : Ext w (w.alloc (.cells #[.int .u64 0, .int .i64 0, .slice none 0 0, .slice none 0 0] 68)) := (Ext.refl w).alloc _
  generalize w.alloc (.cells #[.int .u64 0, .int .i64 0, .slice none 0 0, .slice none 0 0] 68) = W0 at *
  have H6 := Lib.hid h6
  have HX0 := Lib.hid hx0
  clear h6 hx0
  go_loopw [8] (fun i wr => ∃ k : Nat, k ≤ 2 ∧ i = .int .i64 k ∧ At68 wr w.heap.size z68 ∧ Ext w wr ∧ (1 ≤ k → ct < 18446744073709551615 → pick key (ct + 1) ls = none) ∧ (2 ≤ k → pick key ct ls = none)) (fun i _ => 2 - (intOf i).toNat)
  case atStart => exact ⟨0, by omega, rfl, H6.out, HX0.out, fun h => absurd h (by omega), fun h => absurd h (by omega)⟩
  case round =>
    obtain ⟨k, hk, rfl, hg6, hxr, hn1, hn2⟩ := hrel
    obtain ⟨wo, hwo⟩ : ∃ wo, wo = wr := ⟨_, rfl⟩
    subst hwo
    have hs6 := hg6.lt
    have HG6 := Lib.hid hg6
    have HXO := Lib.hid hxr
    have HN1 := Lib.hid hn1
    have HN2 := Lib.hid hn2
    clear hg6 hxr hn1 hn2
    rcases (show k = 0 ∨ k = 1 ∨ k = 2 by omega) with rfl | rfl | rfl
    · rw [show ((0 : Nat) : Int) = 0 from rfl]
      by_cases hmx : ct < 18446744073709551615
      · have hwr : IntKind.u64.wrap ((ct : Int) + 1) = (ct : Int) + 1 := by rw [IntKind.wrap_u64]; omega
        have hwr2 : ((ct : Int) + 1) % 18446744073709551616 = (ct : Int) + 1 := by omega
        have HCH : Hid (∀ b, pick key (ct + 1) ls = some b → chosen key ct ls = some b) := Lib.hid (fun b h => chosen_next key ct ls b hmx h)
        go_wp2
        clear hwr hwr2
        go_loopw [10] (fun i wr => ∃ j : Nat, j ≤ ls.length ∧ i = .int .i64 j ∧ At68 wr w.heap.size z68 ∧ Ext w wr ∧ pick key (ct + 1) (ls.take j) = none) (fun i _ => ls.length - (intOf i).toNat)
        case atStart => exact ⟨0, by omega, rfl, HG6.out, HXO.out, rfl⟩
        case round =>
          obtain ⟨j, hj, rfl, hg6, hxr, hpn⟩ := hrel
          have hs6 := hg6.lt
          have HG7 := Lib.hid hg6
          have HXR := Lib.hid hxr
          have HPN := Lib.hid hpn
          clear hg6 hxr hpn
          by_cases hlt : j < ls.length
          · obtain ⟨b0, o, cap', hA, _, _, hbl, hcell⟩ := HL.out.rd.pos (by omega)
            injection hA with hA1 hA2 hA3
            subst hA1
            subst hA3
            obtain ⟨u, hu, hub⟩ := HL.out.each j hlt
            have hc := (HXR.out.cell b0 (o + j) hbl).trans (hcell j u hu)
            have HU := Lib.hid (Rd.ext hub HXR.out)
            have hbb : (ls.getD j []).length ≤ 1073741824 := by
              have : ls.getD j [] = ls[j] := by simp [List.getD, hlt]
              rw [this]; exact HBL.out _ (List.getElem_mem hlt)
            have HP1 := Lib.hid (pick_next key ((ct + 1)) ls j hlt)
            have HKR := Lib.hid (Rd.ext HK.out HXR.out)
            obtain ⟨b, hbq⟩ : ∃ b, ls.getD j [] = b := ⟨_, rfl⟩
            rw [hbq] at HU HP1 hbb
            clear hcell hu hub hbq
            have TB : True := trivial
            cases hgd : good key b with
            | false =>
              have HDE := Lib.hid (rdecode_bad kv u key b wr HU.out HKR.out hk0 hbb hgd)
              have HQ1 : Hid (pick key ((ct + 1)) (ls.take (j + 1)) = none) := Lib.hid (by rw [HP1.out, HPN.out, hgd]; rfl)
              clear hgd
              go_wp2_with (first | (go_at_call 70; go_must (refine HDE.out.mono ?_; rintro e w2 ⟨rfl, hx2⟩; have HX2 := Lib.hid hx2; clear hx2)) | (refine wpl_store68 rfl _ _ rfl w2.heap.size (.int .u64 0) (.int .i64 0) (.slice none 0 0) (.slice none 0 0) (.int .u64 0) (.int .i64 0) (.slice none 0 0) (.slice none 0 0) rfl rfl (by simp [row68, Value.oneCell']) (heap_alloc_last w2 _) ?_; intro w3 h3 hu3; have hx3 : Ext w2 w3 := ((Ext.refl w2).alloc _).upd_new hu3 (Nat.le_refl _); have HX3 := Lib.hid (HX2.out.trans hx3); have hs3 : w2.heap.size < w3.heap.size := (Array.getElem?_eq_some_iff.1 h3).1; clear h3 hu3 hx3))
              go_roundw
              case rel => exact ⟨j + 1, by omega, by go_num, HG7.out.ext HX3.out, HXR.out.trans HX3.out, HQ1.out⟩
              case measure => (simp [intOf] <;> omega)
            | true =>
              have HDE := Lib.hid (rdecode_good kv u key b wr HU.out HKR.out hk0 hbb hgd)
              by_cases hm : fnum b = (ct + 1)
              · have hpk := HCH.out b (pick_early key ((ct + 1)) ls (j + 1) b (by rw [HP1.out, HPN.out, hgd, decide_eq_true hm]; rfl))
                have hmi : (fnum b : Int) = ((ct : Int) + 1) := by omega
                have HPK := Lib.hid hpk
                clear hgd hm hpk
                go_wp2_with (first | (go_at_call 70; go_must (refine HDE.out.mono ?_; rintro e w2 ⟨sv, gv, rfl, hr2, hx2⟩; have HR2 := Lib.hid hr2; have HX2 := Lib.hid hx2; clear hr2 hx2)) | (clear TB; refine wpl_store68 rfl _ _ rfl w2.heap.size (.int .u64 (fnum b : Int)) (.int .i64 (fN b : Int)) sv gv (.int .u64 0) (.int .i64 0) (.slice none 0 0) (.slice none 0 0) rfl rfl (seRow_one HR2.out) (heap_alloc_last w2 _) ?_; intro w3 h3 hu3; have hx3 : Ext w2 w3 := ((Ext.refl w2).alloc _).upd_new hu3 (Nat.le_refl _); have HX3 := Lib.hid (HX2.out.trans hx3); have HR3 := Lib.hid (HR2.out.ext hx3); have HG3 : Hid (At68 w3 w2.heap.size (seRow (mkSe b sv gv))) := Lib.hid h3; have hs3 := HG3.out.lt; have cg0 : w3.cell? ⟨w2.heap.size, 0, none⟩ = some (.int .u64 (fnum b : Int)) := (by rw [cell_of_row _ _ _ _ _ _ h3]; rfl); clear h3 hu3 hx3) | (refine wpl_load68 rfl _ rfl w2.heap.size rfl _ _ _ _ HG3.out ?_) | (refine wpl_store68 rfl _ _ rfl w.heap.size (.int .u64 (fnum b : Int)) (.int .i64 (fN b : Int)) sv gv _ _ _ _ rfl rfl (seRow_one HR3.out) (HG7.out.ext HX3.out) ?_; intro w4 h4 hu4; have HG4 : Hid (At68 w4 w.heap.size (seRow (mkSe b sv gv))) := Lib.hid h4; have HU4 := Lib.hid hu4; clear h4 hu4))
                refine ret68t rfl w.heap.size _ _ _ _ _ rfl rfl HG4.out rfl ⟨mkSe b sv gv, 0, rfl, HR3.out.upd68 HU4.out (se0_r _) (HG7.out.ext HX3.out), (HXR.out.trans HX3.out).upd_new HU4.out (Nat.le_refl _), ?_⟩
                rw [HPK.out]
                exact .inl ⟨b, sv, gv, rfl, rfl, rfl⟩
              · have hmi : ¬ (fnum b : Int) = ((ct : Int) + 1) := by omega
                have HQ1 : Hid (pick key ((ct + 1)) (ls.take (j + 1)) = none) := Lib.hid (by rw [HP1.out, HPN.out, hgd, decide_eq_false hm]; rfl)
                clear hgd hm
                go_wp2_with (first | (go_at_call 70; go_must (refine HDE.out.mono ?_; rintro e w2 ⟨sv, gv, rfl, hr2, hx2⟩; have HR2 := Lib.hid hr2; have HX2 := Lib.hid hx2; clear hr2 hx2)) | (clear TB; refine wpl_store68 rfl _ _ rfl w2.heap.size (.int .u64 (fnum b : Int)) (.int .i64 (fN b : Int)) sv gv (.int .u64 0) (.int .i64 0) (.slice none 0 0) (.slice none 0 0) rfl rfl (seRow_one HR2.out) (heap_alloc_last w2 _) ?_; intro w3 h3 hu3; have hx3 : Ext w2 w3 := ((Ext.refl w2).alloc _).upd_new hu3 (Nat.le_refl _); have HX3 := Lib.hid (HX2.out.trans hx3); have hs3 : w2.heap.size < w3.heap.size := (Array.getElem?_eq_some_iff.1 h3).1; have cg0 : w3.cell? ⟨w2.heap.size, 0, none⟩ = some (.int .u64 (fnum b : Int)) := (by rw [cell_of_row _ _ _ _ _ _ h3]; rfl); clear h3 hu3 hx3))
                go_roundw
                case rel => exact ⟨j + 1, by omega, by go_num, HG7.out.ext HX3.out, HXR.out.trans HX3.out, HQ1.out⟩
                case measure => (simp [intOf] <;> omega)
          · obtain rfl : j = ls.length := by omega
            have hpe := HPN.out
            rw [List.take_length] at hpe
            have HPE := Lib.hid hpe
            clear hpe
            go_wp2
            go_roundw
            case rel => exact ⟨0 + 1, by omega, by first | rfl | go_num, HG7.out, HXR.out, (fun _ _ => HPE.out), (fun h => absurd h (by omega))⟩
            case measure => (simp [intOf] <;> omega)
      · have hwr : IntKind.u64.wrap ((ct : Int) + 1) = 0 := by rw [IntKind.wrap_u64]; omega
        have hwr2 : ((ct : Int) + 1) % 18446744073709551616 = 0 := by omega
        have hc0 : 0 < (ct : Int) := by omega
        go_wp2
        go_roundw
        case rel => exact ⟨1, by omega, by first | rfl | go_num, HG6.out, HXO.out, fun _ h => absurd h hmx, fun h => absurd h (by omega)⟩
        case measure => (simp [intOf] <;> omega)
    · rw [show ((1 : Nat) : Int) = 1 from rfl]
      have HCH : Hid (∀ b, pick key ct ls = some b → chosen key ct ls = some b) := Lib.hid (fun b h => by rw [chosen_now key ct ls (HN1.out (by omega))]; exact h)
      have hwr : IntKind.u64.wrap (ct : Int) = (ct : Int) := by rw [IntKind.wrap_u64]; omega
      have hwr2 : (ct : Int) % 18446744073709551616 = (ct : Int) := by omega
      go_wp2
      clear hwr hwr2
      go_loopw [10] (fun i wr => ∃ j : Nat, j ≤ ls.length ∧ i = .int .i64 j ∧ At68 wr w.heap.size z68 ∧ Ext w wr ∧ pick key ct (ls.take j) = none) (fun i _ => ls.length - (intOf i).toNat)
      case atStart => exact ⟨0, by omega, rfl, HG6.out, HXO.out, rfl⟩
      case round =>
        obtain ⟨j, hj, rfl, hg6, hxr, hpn⟩ := hrel
        have hs6 := hg6.lt
        have HG7 := Lib.hid hg6
        have HXR := Lib.hid hxr
        have HPN := Lib.hid hpn
        clear hg6 hxr hpn
        by_cases hlt : j < ls.length
        · obtain ⟨b0, o, cap', hA, _, _, hbl, hcell⟩ := HL.out.rd.pos (by omega)
          injection hA with hA1 hA2 hA3
          subst hA1
          subst hA3
          obtain ⟨u, hu, hub⟩ := HL.out.each j hlt
          have hc := (HXR.out.cell b0 (o + j) hbl).trans (hcell j u hu)
          have HU := Lib.hid (Rd.ext hub HXR.out)
          have hbb : (ls.getD j []).length ≤ 1073741824 := by
            have : ls.getD j [] = ls[j] := by simp [List.getD, hlt]
            rw [this]; exact HBL.out _ (List.getElem_mem hlt)
          have HP1 := Lib.hid (pick_next key (ct) ls j hlt)
          have HKR := Lib.hid (Rd.ext HK.out HXR.out)
          obtain ⟨b, hbq⟩ : ∃ b, ls.getD j [] = b := ⟨_, rfl⟩
          rw [hbq] at HU HP1 hbb
          clear hcell hu hub hbq
          have TB : True := trivial
          cases hgd : good key b with
          | false =>
            have HDE := Lib.hid (rdecode_bad kv u key b wr HU.out HKR.out hk0 hbb hgd)
            have HQ1 : Hid (pick key (ct) (ls.take (j + 1)) = none) := Lib.hid (by rw [HP1.out, HPN.out, hgd]; rfl)
            clear hgd
            go_wp2_with (first | (go_at_call 70; go_must (refine HDE.out.mono ?_; rintro e w2 ⟨rfl, hx2⟩; have HX2 := Lib.hid hx2; clear hx2)) | (refine wpl_store68 rfl _ _ rfl w2.heap.size (.int .u64 0) (.int .i64 0) (.slice none 0 0) (.slice none 0 0) (.int .u64 0) (.int .i64 0) (.slice none 0 0) (.slice none 0 0) rfl rfl (by simp [row68, Value.oneCell']) (heap_alloc_last w2 _) ?_; intro w3 h3 hu3; have hx3 : Ext w2 w3 := ((Ext.refl w2).alloc _).upd_new hu3 (Nat.le_refl _); have HX3 := Lib.hid (HX2.out.trans hx3); have hs3 : w2.heap.size < w3.heap.size := (Array.getElem?_eq_some_iff.1 h3).1; clear h3 hu3 hx3))
            go_roundw
            case rel => exact ⟨j + 1, by omega, by go_num, HG7.out.ext HX3.out, HXR.out.trans HX3.out, HQ1.out⟩
            case measure => (simp [intOf] <;> omega)
          | true =>
            have HDE := Lib.hid (rdecode_good kv u key b wr HU.out HKR.out hk0 hbb hgd)
            by_cases hm : fnum b = ct
            · have hpk := HCH.out b (pick_early key (ct) ls (j + 1) b (by rw [HP1.out, HPN.out, hgd, decide_eq_true hm]; rfl))
              have hmi : (fnum b : Int) = (ct : Int) := by omega
              have HPK := Lib.hid hpk
              clear hgd hm hpk
              go_wp2_with (first | (go_at_call 70; go_must (refine HDE.out.mono ?_; rintro e w2 ⟨sv, gv, rfl, hr2, hx2⟩; have HR2 := Lib.hid hr2; have HX2 := Lib.hid hx2; clear hr2 hx2)) | (clear TB; refine wpl_store68 rfl _ _ rfl w2.heap.size (.int .u64 (fnum b : Int)) (.int .i64 (fN b : Int)) sv gv (.int .u64 0) (.int .i64 0) (.slice none 0 0) (.slice none 0 0) rfl rfl (seRow_one HR2.out) (heap_alloc_last w2 _) ?_; intro w3 h3 hu3; have hx3 : Ext w2 w3 := ((Ext.refl w2).alloc _).upd_new hu3 (Nat.le_refl _); have HX3 := Lib.hid (HX2.out.trans hx3); have HR3 := Lib.hid (HR2.out.ext hx3); have HG3 : Hid (At68 w3 w2.heap.size (seRow (mkSe b sv gv))) := Lib.hid h3; have hs3 := HG3.out.lt; have cg0 : w3.cell? ⟨w2.heap.size, 0, none⟩ = some (.int .u64 (fnum b : Int)) := (by rw [cell_of_row _ _ _ _ _ _ h3]; rfl); clear h3 hu3 hx3) | (refine wpl_load68 rfl _ rfl w2.heap.size rfl _ _ _ _ HG3.out ?_) | (refine wpl_store68 rfl _ _ rfl w.heap.size (.int .u64 (fnum b : Int)) (.int .i64 (fN b : Int)) sv gv _ _ _ _ rfl rfl (seRow_one HR3.out) (HG7.out.ext HX3.out) ?_; intro w4 h4 hu4; have HG4 : Hid (At68 w4 w.heap.size (seRow (mkSe b sv gv))) := Lib.hid h4; have HU4 := Lib.hid hu4; clear h4 hu4))
              refine ret68t rfl w.heap.size _ _ _ _ _ rfl rfl HG4.out rfl ⟨mkSe b sv gv, 0, rfl, HR3.out.upd68 HU4.out (se0_r _) (HG7.out.ext HX3.out), (HXR.out.trans HX3.out).upd_new HU4.out (Nat.le_refl _), ?_⟩
              rw [HPK.out]
              exact .inl ⟨b, sv, gv, rfl, rfl, rfl⟩
            · have hmi : ¬ (fnum b : Int) = (ct : Int) := by omega
              have HQ1 : Hid (pick key (ct) (ls.take (j + 1)) = none) := Lib.hid (by rw [HP1.out, HPN.out, hgd, decide_eq_false hm]; rfl)
              clear hgd hm
              go_wp2_with (first | (go_at_call 70; go_must (refine HDE.out.mono ?_; rintro e w2 ⟨sv, gv, rfl, hr2, hx2⟩; have HR2 := Lib.hid hr2; have HX2 := Lib.hid hx2; clear hr2 hx2)) | (clear TB; refine wpl_store68 rfl _ _ rfl w2.heap.size (.int .u64 (fnum b : Int)) (.int .i64 (fN b : Int)) sv gv (.int .u64 0) (.int .i64 0) (.slice none 0 0) (.slice none 0 0) rfl rfl (seRow_one HR2.out) (heap_alloc_last w2 _) ?_; intro w3 h3 hu3; have hx3 : Ext w2 w3 := ((Ext.refl w2).alloc _).upd_new hu3 (Nat.le_refl _); have HX3 := Lib.hid (HX2.out.trans hx3); have hs3 : w2.heap.size < w3.heap.size := (Array.getElem?_eq_some_iff.1 h3).1; have cg0 : w3.cell? ⟨w2.heap.size, 0, none⟩ = some (.int .u64 (fnum b : Int)) := (by rw [cell_of_row _ _ _ _ _ _ h3]; rfl); clear h3 hu3 hx3))
              go_roundw
              case rel => exact ⟨j + 1, by omega, by go_num, HG7.out.ext HX3.out, HXR.out.trans HX3.out, HQ1.out⟩
              case measure => (simp [intOf] <;> omega)
        · obtain rfl : j = ls.length := by omega
          have hpe := HPN.out
          rw [List.take_length] at hpe
          have HPE := Lib.hid hpe
          clear hpe
          go_wp2
          go_roundw
          case rel => exact ⟨1 + 1, by omega, by first | rfl | go_num, HG7.out, HXR.out, (fun _ => HN1.out (by omega)), (fun _ => HPE.out)⟩
          case measure => (simp [intOf] <;> omega)
    · have hch : chosen key ct ls = none := by rw [chosen_now key ct ls (HN1.out (by omega)), HN2.out (by omega)]
      go_wp2_with (refine wpl_store68 rfl _ _ rfl w.heap.size (.int .u64 0) (.int .i64 0) (.slice none 0 0) (.slice none 0 0) (.int .u64 0) (.int .i64 0) (.slice none 0 0) (.slice none 0 0) rfl rfl (by simp [row68, Value.oneCell']) HG6.out ?_; intro wz hz huz; have HZ := Lib.hid hz; have HUZ := Lib.hid huz; clear hz huz)
      exact ret68t rfl w.heap.size _ _ _ _ _ rfl rfl HZ.out rfl ⟨Se0, 5, rfl, se0_r _, HXO.out.upd_new HUZ.out (Nat.le_refl _), .inr ⟨hch, rfl, rfl⟩⟩
end Go.Proofs.Ytapojpjmeadabaa
end

section
/- sacristanlaw08.known. -/
namespace Go.Proofs.Ytapojpjmeadabaa
open Go.RowKit
set_option linter.unusedVariables false
set_option linter.unusedSimpArgs false
attribute [local go_sem] lt_ext cell?_ext frozen?_ext shape?_ext

def kX (g : Nat) : Se := ⟨3, 1, [1], [Sha.zeros 32], .slice (some ⟨g, 0, none⟩) 1 1, .slice (some ⟨g + 1, 0, none⟩) 1 1⟩
theorem kX_right : rightB 1 [1] [Sha.zeros 32] = true := by decide
theorem kX_all : ∀ d ∈ [Sha.zeros 32], d.length = 32 := by intro d hd; have e : d = Sha.zeros 32 := (by simpa using hd); rw [e]; simp [Sha.zeros]
theorem kX_r (w : World) : SeR ((w.alloc (.cells #[.int .u8 1] 5)).alloc (.cells (row8 (Sha.zeros 32)) 27)) (kX w.heap.size) := by
  refine ⟨?_, ?_, (by decide : (3 : Nat) ≤ 18446744073709551615), (by decide : (-9223372036854775808 : Int) ≤ 1), (by decide : (1 : Int) ≤ 9223372036854775807)⟩
  · exact Rd.ext (Bs.lit_new w #[.int .u8 1] [1] rfl (by decide)) ((Ext.refl _).alloc _)
  · have h := dgs_one (w.alloc (.cells #[.int .u8 1] 5)) (Sha.zeros 32) (by simp [Sha.zeros])
    rw [World.size_alloc] at h
    exact h
theorem exec_load68 {o : Oper} {ρ : Operand → Value} (p : Operand) (ho : o.op = .load 68 p) (g : Nat) (hp : ρ p = .pointer (some ⟨g, 0, none⟩)) (n b s g' : Value) (w : World) (hg : At68 w g (row68 n b s g')) :
    (execOp ρ o).run Try.prog w = .ok (.value (.agg (row68 n b s g'))) w := by
  unfold execOp
  simp only [ho, hp, Instr.loadAt, Instr.sureAddr, Sem.run_bind, Sem.run_pure, Result.andThen_ok, run_loadVar_row w g 68 68 _ (0, 0) _ hg Try.underlying68 rfl (size68 n b s g')]
set_option maxRecDepth 100000 in
set_option maxHeartbeats 8000000 in
theorem known8_of (B : List UInt8) (hB : Hid (encS [107] 3 1 [1] [Sha.zeros 32] = B)) (hl : B.length = 81) (hg : Hid (good [107] B = true)) (hN : Hid (fN B = 1)) (hnum : Hid (fnum B = 3)) (hsl : Hid (fsl B = [1])) (hsu : Hid (gsu B = [Sha.zeros 32])) (w : World) :
    Calls Try.prog 63 #[] w fun e w' => e = .returned (.bool true) ∧ Ext w w' := by
  have hr := kX_r w
  have hx2 : Ext w ((w.alloc (.cells #[.int .u8 1] 5)).alloc (.cells (row8 (Sha.zeros 32)) 27)) := ((Ext.refl w).alloc _).alloc _
  have hs2 : ((w.alloc (.cells #[.int .u8 1] 5)).alloc (.cells (row8 (Sha.zeros 32)) 27)).heap.size = w.heap.size + 2 := by rw [World.size_alloc, World.size_alloc]
  have h3 := heap_alloc_last ((w.alloc (.cells #[.int .u8 1] 5)).alloc (.cells (row8 (Sha.zeros 32)) 27)) (.cells #[.int .u64 0, .int .i64 0, .slice none 0 0, .slice none 0 0] 68)
  rw [hs2] at h3
  have HR := Lib.hid hr
  have HX2 := Lib.hid hx2
  have H3 := Lib.hid h3
  clear hr hx2 h3 hs2
  have hsame : ∀ sv gv, sameB (kX w.heap.size) (mkSe B sv gv) = true := fun sv gv => by
    unfold sameB kX mkSe
    rw [hN.out, hnum.out, hsl.out, hsu.out]
    simp
  have hslot : ((slotN [1] 0 : Nat) : Int) = 1 := by decide
  have HSM := Lib.hid hsame
  have HST := Lib.hid hslot
  clear hsame hslot
  have TA : True := trivial
  go_enter Try.func63, Try.ntmps63
  go_wp2_with (first | (refine wpl_exec rfl (Dig (Sha.zeros 32)) (exec_build27 rfl _) ?_) | (refine wpl_vw rfl _ _ (exec_build66 (.tmp 7) rfl (Sha.zeros 32) (by simp [Sha.zeros]) rfl _) ?_) | (clear TA; refine wpl_store68 rfl _ _ rfl (w.heap.size + 2) (.int .u64 3) (.int .i64 1) (.slice (some ⟨w.heap.size, 0, none⟩) 1 1) (.slice (some ⟨w.heap.size + 1, 0, none⟩) 1 1) (.int .u64 0) (.int .i64 0) (.slice none 0 0) (.slice none 0 0) rfl rfl (by simp [row68, Value.oneCell']) H3.out ?_; intro w3 h3 hu3; have hx3 := ((Ext.refl _).alloc _).upd_new hu3 (by simp); have HR3 := Lib.hid (HR.out.ext hx3); have HX3 := Lib.hid (HX2.out.trans hx3); have HG3 : Hid (At68 w3 (w.heap.size + 2) (seRow (kX w.heap.size))) := Lib.hid h3; clear h3 hu3 hx3; have TB : True := trivial) | (clear TB; refine wpl_conv23 rfl (.tmp 11) rfl [107] 1 rfl _ rfl (by decide) rfl ?_; intro w4 v4 hb4 hx4; have HK4 := Lib.hid hb4; have HR4 := Lib.hid (HR3.out.ext hx4); have HX4 := Lib.hid (HX3.out.trans hx4); have HG4 := Lib.hid (HG3.out.ext hx4); clear hb4 hx4; have TC : True := trivial) | (clear TC; refine wpl_load68 rfl _ rfl (w.heap.size + 2) rfl _ _ _ _ HG4.out ?_; have TD : True := trivial) | (go_at_call 64; clear TD; go_must (refine (encode_any _ (kX w.heap.size) [107] _ HK4.out (by decide) HR4.out kX_right).mono ?_; rintro e w5 ⟨v5, rfl, hn5⟩; have hb5 : Bs w5 v5 (encS [107] 3 1 [1] [Sha.zeros 32]) := hn5.bs; rw [hB.out] at hb5; have HB5 := Lib.hid hb5; have HR5 := Lib.hid (HR4.out.ext hn5.ext); have HX5 := Lib.hid (HX4.out.trans hn5.ext); have HG5 := Lib.hid (HG4.out.ext hn5.ext); clear hb5 hn5; have TE : True := trivial)) | (clear TE; refine wpl_conv23 rfl (.tmp 18) rfl [107] 1 rfl _ rfl (by decide) rfl ?_; intro w6 v6 hb6 hx6; have HK6 := Lib.hid hb6; have HB6 := Lib.hid (Rd.ext HB5.out hx6); have HR6 := Lib.hid (HR5.out.ext hx6); have HX6 := Lib.hid (HX5.out.trans hx6); have HG6 := Lib.hid (HG5.out.ext hx6); clear hb6 hx6) | (go_at_call 68; go_must (refine (decode_good _ _ [107] B _ HB6.out HK6.out (by decide) (by omega) hg.out).mono ?_; rintro e w7 ⟨sv, gv, rfl, hr7, hx7⟩; have HY7 := Lib.hid hr7; have HR7 := Lib.hid (HR6.out.ext hx7); have HX7 := Lib.hid (HX6.out.trans hx7); have HG7 := Lib.hid (HG6.out.ext hx7); clear hr7 hx7; have TF : True := trivial)) | (clear TF; refine wpl_store68 rfl _ _ rfl w7.heap.size (.int .u64 (fnum B : Int)) (.int .i64 (fN B : Int)) sv gv (.int .u64 0) (.int .i64 0) (.slice none 0 0) (.slice none 0 0) rfl rfl (seRow_one HY7.out) (heap_alloc_last w7 _) ?_; intro w8 h8 hu8; have hx8 := ((Ext.refl _).alloc _).upd_new hu8 (Nat.le_refl w7.heap.size); have HY8 := Lib.hid (HY7.out.ext hx8); have HR8 := Lib.hid (HR7.out.ext hx8); have HX8 := Lib.hid (HX7.out.trans hx8); have HG8 := Lib.hid (HG7.out.ext hx8); have HH8 : Hid (At68 w8 w7.heap.size (seRow (mkSe B sv gv))) := Lib.hid h8; clear h8 hu8 hx8; have TG : True := trivial; have TP : True := trivial; have TQ : True := trivial) | (clear TG; refine wpl_v ?_ _ (exec_load68 (.tmp 1) rfl (w.heap.size + 2) rfl _ _ _ _ _ HG8.out) ?_; rfl) | (clear TP; refine wpl_v ?_ _ (exec_load68 (.tmp 4) rfl w7.heap.size rfl _ _ _ _ _ HH8.out) ?_; rfl; have TR : True := trivial) | (go_at_call 66; clear TR; go_must (refine (rsame_any (kX w.heap.size) (mkSe B sv gv) _ HR8.out HY8.out (show 1 ≤ _ by decide)).mono ?_; rintro e w9 ⟨rfl, hx9⟩; rw [HSM.out]; have HR9 := Lib.hid (HR8.out.ext hx9); have HX9 := Lib.hid (HX8.out.trans hx9); have HG9 := Lib.hid (HG8.out.ext hx9); clear hx9; have TS : True := trivial)) | (go_at_call 65; clear TS; go_must (refine (parts_nat 17 2 (by decide) (by decide) _).mono ?_; rintro e w10 ⟨rfl, rfl⟩; have TT : True := trivial)) | (clear TT; refine wpl_v ?_ _ (exec_load68 (.tmp 1) rfl (w.heap.size + 2) rfl _ _ _ _ _ HG9.out) ?_; rfl) | (go_at_call 75; go_must (refine (slot_in _ _ _ _ [1] 0 (by decide) (by decide) ⟨_, rfl⟩ ⟨_, rfl⟩ ⟨_, _, _, rfl⟩ _ HR9.out.sl).mono ?_; rintro e w11 ⟨rfl, hx11⟩; rw [HST.out]; have HX11 := Lib.hid (HX9.out.trans hx11); clear hx11)))
  go_ret
  exact ⟨rfl, HX11.out⟩
theorem known8_any (w : World) : Calls Try.prog 63 #[] w fun e w' => e = .returned (.bool true) ∧ Ext w w' := by
  obtain ⟨h1, h2, h3, h4, h5⟩ := good_enc [107] 3 1 (by decide) [1] [Sha.zeros 32] kX_all kX_right
  exact known8_of _ (Lib.hid rfl) (encS_length [107] 3 1 [1] [Sha.zeros 32] rfl rfl kX_all) (Lib.hid h1) (Lib.hid h2) (Lib.hid h3) (Lib.hid h4) (Lib.hid h5) w
end Go.Proofs.Ytapojpjmeadabaa
end

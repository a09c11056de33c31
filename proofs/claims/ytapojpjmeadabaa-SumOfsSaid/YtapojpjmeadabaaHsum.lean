/- sha.Hash.Sum: the sum of all that a Hash was told. -/
import Derived.Test.YtapojpjmeadabaaNew
import Derived.Test.YtapojpjmeadabaaRegm
namespace Go.Proofs.Ytapojpjmeadabaa
open Go.RowKit
set_option linter.unusedVariables false
set_option linter.unusedSimpArgs false
attribute [local go_sem] lt_ext cell?_ext frozen?_ext shape?_ext

/-- A digest as a value. -/
def row8 (l : List UInt8) : Array Value := (l.map B8).toArray
abbrev Dig (l : List UInt8) : Value := .agg (row8 l)
theorem row8_size (l : List UInt8) : (row8 l).size = l.length := by simp [row8]
theorem row8_get {l : List UInt8} {i : Nat} (h : i < l.length) : (row8 l)[i]? = some (B8 (l.getD i 0)) := by simp [row8, h]
theorem row8_set {l : List UInt8} {i : Nat} (x : UInt8) : (row8 l).setIfInBounds i (B8 x) = row8 (l.set i x) := by
  simp only [row8, List.setIfInBounds_toArray, List.map_set]
theorem row8_one (l : List UInt8) : (row8 l).all (·.oneCell') = true := by simp [row8, Value.oneCell']
theorem zero27 : (∀ w, (zeroValue 27).run Try.prog w = .ok (Dig (Sha.zeros 32)) w) ∧ (Try.prog.info? 27).map (·.size) = some 32 := zero_of_info (by kernel_rfl)
theorem size27 (l : List UInt8) (h : l.length = 32) : (Try.prog.info? 27).map (·.size) = some (row8 l).size := by rw [row8_size, h]; exact zero27.2
theorem wpl_load27 {ops : Array Oper} {rest : List Oper} {o : Oper} {a : Act} {w : World} {Q : Exit → Act → World → Prop} (hgd : o.guard = none) (x : Operand) (ho : o.op = .load 27 x)
    (g : Nat) (hx : a.eval x = .pointer (some ⟨g, 0, none⟩)) (l : List UInt8) (hl : l.length = 32) (hg : w.heap[g]? = some (.cells (row8 l) 27 (0, 0)))
    (h : wpList Try.prog ops Q rest (a.put o.dst (Dig l)) w) : wpList Try.prog ops Q (o :: rest) a w :=
  wpList_load_row hgd 27 x ho g hx 27 _ (0, 0) _ hg Try.underlying27 rfl (size27 l hl) h
/-- A store of a whole digest: whatever world has just that turned. -/
theorem wpl_store27 {ops : Array Oper} {rest : List Oper} {o : Oper} {a : Act} {w : World} {Q : Exit → Act → World → Prop} (hgd : o.guard = none) (x y : Operand) (ho : o.op = .store 27 x y)
    (g : Nat) (l l0 : List UInt8) (hx : a.eval x = .pointer (some ⟨g, 0, none⟩)) (hy : a.eval y = Dig l) (hl : l.length = 32) (hl0 : l0.length = 32) (hg : w.heap[g]? = some (.cells (row8 l0) 27 (0, 0)))
    (h : ∀ w', w'.heap[g]? = some (.cells (row8 l) 27 (0, 0)) → Upd w w' g → wpList Try.prog ops Q rest (a.put o.dst undef) w') : wpList Try.prog ops Q (o :: rest) a w :=
  wpList_store_row hgd 27 x y ho g _ hx hy 27 _ hg (size27 l hl) (by rw [row8_size, row8_size, hl, hl0]) (row8_one l)
    (h _ (setRow_heap _ _ _ _ _ _ hg) ⟨rfl, rfl, rfl, by simp, fun k _ hk => setRow_other w g k _ (fun e => hk (by rw [e]))⟩)
theorem ret27 {fn : Func} {p : Tmp} {R : Ending → World → Prop} {a : Act} {w : World} (hr : fn.results = #[.cell p 27]) (g : Nat) (l : List UInt8) (hl : l.length = 32)
    (hp : a.tmps.getD p undef = .pointer (some ⟨g, 0, none⟩)) (hg : w.heap[g]? = some (.cells (row8 l) 27 (0, 0))) (hd : a.defers = []) (hR : R (.returned (Dig l)) w) : bodyPost Try.prog fn R .ret a w :=
  bodyPost_ret (results_cell_row hr a.tmps w g 27 _ (0, 0) _ hp hg Try.underlying27 rfl (size27 l hl)) hd hR

/-- What is known of a copy: it lies in memory newer than B. -/
def CopyR (B kb : Nat) (m : List UInt8) (u : Value) (w : World) : Prop := ∃ hb' rv', u = .pointer (some ⟨hb', 0, none⟩) ∧ HashAt w hb' kb rv' m ∧ B ≤ hb' ∧ (∀ g, rv'.ownBlock = some g → B ≤ g)
theorem CopyR.ext {B kb : Nat} {m : List UInt8} (u : Value) (w w' : World) (hx : Ext w w') (h : CopyR B kb m u w) : CopyR B kb m u w' := by
  obtain ⟨hb', rv', h1, h2, h3, h4⟩ := h
  exact ⟨hb', rv', h1, h2.ext hx, h3, h4⟩

/-- Bytes written out, in a block that was just made. -/
theorem Bs.lit_new (w : World) (c : Array Value) (l : List UInt8) (hc : c = (l.map B8).toArray) (hl : l.length ≤ 4294967296) : Bs (w.alloc (.cells c 5)) (.slice (some ⟨w.heap.size, 0, none⟩) l.length l.length) l := by
  subst hc
  refine Rd.lit (by simp) (Nat.le_refl _) (Nat.le_trans hl (by unfold maxLen; decide)) (by simp) fun j u hj => ?_
  rw [Nat.zero_add, cell_of_row _ _ _ _ _ _ (heap_alloc_last w _)]
  simpa using hj
/-- A Hash of our own: all that it may turn lies in memory that is newer than w0. -/
structure OurH (w0 : World) (hb kb : Nat) (rv : Value) (m : List UInt8) (w : World) : Prop where
  at_ : HashAt w hb kb rv m
  ext : Ext w0 w
  ge : w0.heap.size ≤ hb
  fr : ∀ g, rv.ownBlock = some g → w0.heap.size ≤ g
theorem OurH.grow {w0 w w' : World} {hb kb : Nat} {rv : Value} {m : List UInt8} (h : OurH w0 hb kb rv m w) (hx : Ext w w') : OurH w0 hb kb rv m w' := ⟨h.at_.ext hx, h.ext.trans hx, h.ge, h.fr⟩
theorem OurH.wrote {w0 w w' : World} {hb kb : Nat} {rv rv' : Value} {m m' : List UInt8} (h : OurH w0 hb kb rv m w) (hH : HashAt w' hb kb rv' m') (hc : Chg w w' (hset hb rv))
    (hf : rv'.ownBlock = rv.ownBlock ∨ ∀ g, rv'.ownBlock = some g → w.heap.size ≤ g) : OurH w0 hb kb rv' m' w' := by
  refine ⟨hH, ?_, h.ge, fun g hg => ?_⟩
  · exact (Chg.trans (S := fun _ => False) (Chg.of_ext h.ext _) hc (by
      rintro i hi (e | e)
      · have := h.ge; omega
      · have := h.fr i e.symm; omega)).ext fun k hk => hk.elim
  · rcases hf with e | e
    · exact h.fr g (e ▸ hg)
    · exact Nat.le_trans h.ext.size (e g hg)
theorem HashAt.rest {w : World} {hb kb : Nat} {rv : Value} {m : List UInt8} (h : HashAt w hb kb rv m) : ∃ A c, rv = .slice A (m.length % 64) c ∧ w.cell? ⟨hb, 8, none⟩ = some rv := by
  obtain ⟨p, r, h1, h2, h3, h4, h5⟩ := h.ex
  obtain ⟨A, c, hv, _⟩ := h5.rd.is
  refine ⟨A, c, ?_, hobj_cell8 h4⟩
  rw [hv, h1, List.length_append]
  congr 1
  omega

theorem hash_cells {w : World} {hb : Nat} {s : Sha.St} {rest long kp : Value} (h : w.heap[hb]? = some (.cells (hcells s.toList rest long kp) 104 (0, 0))) :
    w.cell? ⟨hb, 0, none⟩ = some (W32 s.a) ∧ w.cell? ⟨hb, 1, none⟩ = some (W32 s.b) ∧ w.cell? ⟨hb, 2, none⟩ = some (W32 s.c) ∧ w.cell? ⟨hb, 3, none⟩ = some (W32 s.d) ∧
    w.cell? ⟨hb, 4, none⟩ = some (W32 s.e) ∧ w.cell? ⟨hb, 5, none⟩ = some (W32 s.f) ∧ w.cell? ⟨hb, 6, none⟩ = some (W32 s.g) ∧ w.cell? ⟨hb, 7, none⟩ = some (W32 s.h) := by
  refine ⟨?_, ?_, ?_, ?_, ?_, ?_, ?_, ?_⟩ <;> (rw [cell_of_row _ _ _ _ _ _ h]; rfl)
theorem HashAt.state {w : World} {hb kb : Nat} {rv : Value} {m : List UInt8} (h : HashAt w hb kb rv m) (hm : m.length % 64 = 0) : w.heap[hb]? = some (hobj m rv m.length kb) := by
  obtain ⟨p, r, h1, h2, h3, h4, h5⟩ := h.ex
  have hr : r = [] := by
    apply List.eq_nil_of_length_eq_zero
    have := congrArg List.length h1
    simp at this
    omega
  subst hr
  simp only [List.append_nil] at h1
  subst h1
  exact h4
def outK (s : Sha.St) (k : Nat) : List UInt8 := (Sha.out s).take (4 * k) ++ Sha.zeros (32 - 4 * k)
theorem outK_length (s : Sha.St) (k : Nat) (hk : k ≤ 8) : (outK s k).length = 32 := by simp [outK, Sha.out_length, Sha.zeros]; omega
theorem outK_next (s : Sha.St) (k : Nat) (hk : k < 8) : ((((outK s k).set (4 * k) (UInt8.ofNat ((s.toList.getD k 0).toNat / 16777216))).set (4 * k + 1) (UInt8.ofNat ((s.toList.getD k 0).toNat / 65536))).set (4 * k + 2) (UInt8.ofNat ((s.toList.getD k 0).toNat / 256))).set (4 * k + 3) (UInt8.ofNat (s.toList.getD k 0).toNat) = outK s (k + 1) := by
  rcases below8 k hk with h|h|h|h|h|h|h|h <;> subst h <;> rfl
theorem i8_ofNat (n : Nat) : i8 (UInt8.ofNat n) = ((n % 256 : Nat) : Int) := by simp [i8]
theorem bytes8_cells (m : Nat) (hm : m ≤ 2147483648) : #[Value.int .u8 (8 * (m : Int) / 72057594037927936), .int .u8 (8 * (m : Int) / 281474976710656), .int .u8 (8 * (m : Int) / 1099511627776), .int .u8 (8 * (m : Int) / 4294967296),
    .int .u8 (8 * (m : Int) / 16777216 % 256), .int .u8 (8 * (m : Int) / 65536 % 256), .int .u8 (8 * (m : Int) / 256 % 256), .int .u8 (8 * (m : Int) % 256)] = ((Sha.bytes8 (8 * m)).map B8).toArray := by
  simp only [Sha.bytes8, List.map_cons, List.map_nil, B8, i8_ofNat]
  congr 1
  simp only [List.cons.injEq, Value.int.injEq, true_and, and_true]
  omega

set_option maxRecDepth 100000 in
set_option maxHeartbeats 1000000 in
theorem hsum_any (hb kb : Nat) (rv : Value) (m : List UInt8) (w : World) (hH : HashAt w hb kb rv m) (hle : m.length ≤ 2147483648) :
    Calls Try.prog 34 #[.pointer (some ⟨hb, 0, none⟩)] w fun e w' => e = .returned (Dig (Sha.sum m)) ∧ Ext w w' := by
  have hbh := hH.lt
  have g9 : w.cell? ⟨hb, 9, none⟩ = some (.int .u64 (m.length : Int)) := by
    obtain ⟨p, r, _, _, _, hh, _⟩ := hH.ex
    rw [cell_of_row _ _ _ _ _ _ hh]; rfl
  have HH := Lib.hid hH
  clear hH
  go_enter Try.func34, Try.ntmps34
  go_wp2_with (refine wpl_alloc_agg rfl 27 rfl _ zero27.1 ?_)
  refine wp_region_m (by kernel_rfl) (by kernel_rfl) ?_
  repeat (refine gm_q rfl rfl rfl rfl (fun K hK => ?_); go_big_quiet_op; refine hK _ ?_; clear hK K)
  refine gm_cp rfl rfl rfl rfl 35 #[.pointer (some ⟨hb, 0, none⟩)] (fun _ => by go_simp) 12 rfl (CopyR (w.heap.size + 1) kb m) CopyR.ext (fun x => ?_) ?_
  · have hx : Ext w ((w.alloc (.cells (row8 (Sha.zeros 32)) 27)).ext x) := ((Ext.refl w).alloc _).trans (ext_ext _ _)
    have hs : w.heap.size + 1 ≤ ((w.alloc (.cells (row8 (Sha.zeros 32)) 27)).ext x).heap.size := by have := (ext_ext (w.alloc (.cells (row8 (Sha.zeros 32)) 27)) x).size; simpa using this
    exact (copy_any hb kb rv m _ (HH.out.ext hx)).mono (fun e w' ⟨hb', rv', he, h1, h2, h3, h4⟩ => ⟨_, he, ⟨hb', rv', rfl, h1, Nat.le_trans hs h3, fun g hg => Nat.le_trans hs (h4 g hg)⟩, h2⟩)
  simp only [Act.put, List.setIfInBounds_toArray, List.set_cons_succ, List.set_cons_zero]
  repeat (refine gm_q rfl rfl rfl rfl (fun K hK => ?_); go_big_quiet_op; refine hK _ ?_; clear hK K)
  refine gm_mv rfl 12 (.inr rfl) rfl 3 rfl _ CopyR.ext rfl (by simp) ?_
  simp only [Act.put, List.setIfInBounds_toArray, List.set_cons_succ, List.set_cons_zero]
  repeat (refine gm_q rfl rfl rfl rfl (fun K hK => ?_); go_big_quiet_op; refine hK _ ?_; clear hK K)
  refine gm_end_at rfl [(3, CopyR (w.heap.size + 1) kb m), (12, CopyR (w.heap.size + 1) kb m)] rfl (fun xs x hk => ?_)
  have h3 := hk 3 (by simp) _ rfl
  simp only [fillM, Act.put, List.setIfInBounds_toArray, List.set_cons_succ, List.set_cons_zero]
  obtain ⟨hc, rvc, e3, hHc, hge, hfr⟩ := h3
  rw [e3]
  generalize xs 12 = v12
  clear hk e3 xs g9
  -- the worlds from here on: they have only grown out of w0
  have hR0 : (w.alloc (.cells (row8 (Sha.zeros 32)) 27)).heap[w.heap.size]? = some (.cells (row8 (Sha.zeros 32)) 27 (0, 0)) := heap_alloc_last w _
  have hw0 : Ext w (w.alloc (.cells (row8 (Sha.zeros 32)) 27)) := (Ext.refl w).alloc _
  have hs0 : (w.alloc (.cells (row8 (Sha.zeros 32)) 27)).heap.size = w.heap.size + 1 := by simp
  have hx1 := ext_ext (w.alloc (.cells (row8 (Sha.zeros 32)) 27)) x
  generalize (w.alloc (.cells (row8 (Sha.zeros 32)) 27)).ext x = w1 at *
  generalize w.alloc (.cells (row8 (Sha.zeros 32)) 27) = w0 at *
  have hour : OurH w0 hc kb rvc m w1 := ⟨hHc, hx1, by omega, fun g hg => by have := hfr g hg; omega⟩
  have HC := Lib.hid hour
  have HW0 := Lib.hid hw0
  have HR0 := Lib.hid hR0
  have HS0 := Lib.hid hs0
  clear hHc hx1 hw0 hR0 hs0 hfr hour hge
  go_wp2_with (go_at_call 33; go_must (refine (write_any hc kb rvc _ m [0x80] _ (HC.out.at_.ext ((Ext.refl w1).alloc _)) (Bs.lit_new w1 _ [0x80] rfl (by decide)) (by simp; omega)).mono ?_; rintro e w2 ⟨rfl, rv2, hH2, hc2, hf2⟩; have HC2 := Lib.hid ((HC.out.grow ((Ext.refl w1).alloc _)).wrote hH2 hc2 hf2); clear hH2 hc2 hf2))
  go_loopg [] (Sha.padZ m.length) (fun kq wr => ∃ j rvj, j + kq = Sha.padZ m.length ∧ OurH w0 hc kb rvj (m ++ [0x80] ++ Sha.zeros j) wr)
  case atStart => exact ⟨0, rv2, by omega, by simpa [Sha.zeros] using HC2.out⟩
  case round =>
    obtain ⟨j, rvj, hj, hour⟩ := hrel
    obtain ⟨A, c, hv, g8⟩ := hour.at_.rest
    have hlen : (m ++ [0x80] ++ Sha.zeros j).length = m.length + 1 + j := by simp [Sha.zeros]; omega
    rw [hlen] at hv
    subst hv
    have HJ := Lib.hid hour
    clear HC HC2 hour hlen
    have hpad : (m.length + 1 + Sha.padZ m.length) % 64 = 56 := by unfold Sha.padZ; omega
    have hpad2 : gk ≠ 0 → (m.length + 1 + j) % 64 ≠ 56 := by unfold Sha.padZ at hj; omega
    have hpl : Sha.padZ m.length < 64 := by unfold Sha.padZ; omega
    by_cases hq : gk = 0
    · have hj2 : j = Sha.padZ m.length := by omega
      have e56 : (((m.length : Int) + 1 + (j : Int)) % 64 != 56) = false := by
        subst hj2
        simp only [bne_eq_false_iff_eq]
        omega
      have HPM := Lib.hid hj2
      clear hpad hpad2 hj2
      go_wp2_with (go_at_call 33; go_must (refine (write_any hc kb _ _ _ (Sha.bytes8 (8 * m.length)) _ (HJ.out.at_.ext ((Ext.refl wr).alloc _)) (Bs.lit_new wr _ (Sha.bytes8 (8 * m.length)) (bytes8_cells _ hle) (by simp [Sha.bytes8])) (by simp [Sha.zeros, Sha.bytes8]; omega)).mono ?_; rintro e w3 ⟨rfl, rv3, hH3, hc3, hf3⟩; have HC3 := Lib.hid ((HJ.out.grow ((Ext.refl wr).alloc _)).wrote hH3 hc3 hf3); clear hH3 hc3 hf3; have hpm : m ++ [0x80] ++ Sha.zeros j ++ Sha.bytes8 (8 * m.length) = Sha.padded m := (by rw [HPM.out]; rfl); rw [hpm] at HC3; clear hpm; have hst : w3.heap[hc]? = some (.cells (hcells (Sha.foldN ((Sha.padded m).length / 64) Sha.init (Sha.padded m)).toList _ _ _) 104 (0, 0)) := HC3.out.at_.state (Sha.padded_mod m); obtain ⟨st, hs⟩ : ∃ st, Sha.foldN ((Sha.padded m).length / 64) Sha.init (Sha.padded m) = st := ⟨_, rfl⟩; rw [hs] at hst; have HS := Lib.hid hs; have hcl : hc < w3.heap.size := (Array.getElem?_eq_some_iff.1 hst).1; obtain ⟨g0, g1, g2, g3, g4, g5, g6, g7⟩ := hash_cells hst; clear hs hst))
      have hRw : w3.heap[w.heap.size]? = some (.cells (row8 (Sha.zeros 32)) 27 (0, 0)) := (HC3.out.ext.block (by have := HS0.out; omega)).trans HR0.out
      have hR3 : w.heap.size < w3.heap.size := (Array.getElem?_eq_some_iff.1 hRw).1
      have hE3 : Ext w w3 := HW0.out.trans HC3.out.ext
      have HRW := Lib.hid hRw
      have HE3 := Lib.hid hE3
      clear hRw hE3
      go_loopw [60] (fun i ws => ∃ k : Nat, k ≤ 8 ∧ i = .int .i64 k ∧ Ext w3 ws ∧ ws.heap[w3.heap.size]? = some (.cells (row8 (outK st k)) 27 (0, 0)))
        (fun i _ => 8 - (intOf i).toNat)
      case atStart => exact ⟨0, by omega, rfl, (Ext.refl _).alloc _, heap_alloc_last w3 _⟩
      case round =>
        clear g0 g1 g2 g3 g4 g5 g6 g7 HC3 HJ HPM g8
        obtain ⟨k, hk, rfl, he, hO⟩ := hrel
        by_cases hlt : k < 8
        · have hix := run_index100 st k hlt
          have hcell : ∀ i, i < 32 → wr.cell? ⟨w3.heap.size, i, none⟩ = some (B8 ((outK st k).getD i 0)) := fun i hi => by
            rw [cell_of_row _ _ _ _ _ _ hO]; exact row8_get (by rw [outK_length _ _ hk]; exact hi)
          have c0 := hcell (4 * k) (by omega)
          have c1 := hcell (4 * k + 1) (by omega)
          have c2 := hcell (4 * k + 2) (by omega)
          have c3 := hcell (4 * k + 3) (by omega)
          have hf : ∀ i, wr.frozen? ⟨w3.heap.size, i, none⟩ = false := fun i => frozen_of_row _ _ _ _ _ hO
          have HE := Lib.hid he
          have HO := Lib.hid hO
          clear he hO hcell
          go_wp2
          go_roundw
          case rel =>
            simp only [m8_of_i32_24, m8_of_i32_16, m8_of_i32_8, m8_of_i32]
            refine ⟨k + 1, by omega, by go_num, ?_, ?_⟩
            · repeat refine Ext.setCell_new ?_ trivial (Nat.le_refl _)
              exact HE.out
            · have h1 := (heap_setCell_same _ _ (4 * k) _ _ (B8 (UInt8.ofNat ((st.toList.getD k 0).toNat / 16777216))) HO.out)
              rw [row8_set] at h1
              have h2 := (heap_setCell_same _ _ (4 * k + 1) _ _ (B8 (UInt8.ofNat ((st.toList.getD k 0).toNat / 65536))) h1)
              rw [row8_set] at h2
              have h3 := (heap_setCell_same _ _ (4 * k + 2) _ _ (B8 (UInt8.ofNat ((st.toList.getD k 0).toNat / 256))) h2)
              rw [row8_set] at h3
              have h4 := (heap_setCell_same _ _ (4 * k + 3) _ _ (B8 (UInt8.ofNat (st.toList.getD k 0).toNat)) h3)
              rw [row8_set, outK_next _ _ hlt] at h4
              exact h4
          case measure => simp [intOf]; omega
        · have hk8 : k = 8 := by omega
          subst hk8
          have e8 : outK st 8 = Sha.out st := by simp [outK, Sha.zeros, List.take_of_length_le (Nat.le_of_eq (Sha.out_length st))]
          rw [e8] at hO
          have hRr : wr.heap[w.heap.size]? = some (.cells (row8 (Sha.zeros 32)) 27 (0, 0)) := (he.block hR3).trans HRW.out
          have HO := Lib.hid hO
          have HR := Lib.hid hRr
          have HE := Lib.hid he
          clear hO hRr he e8 hlt hk
          go_wp2_with (first | (refine wpl_load27 rfl _ rfl w3.heap.size rfl (Sha.out st) (Sha.out_length st) HO.out ?_) | (refine wpl_store27 rfl _ _ rfl w.heap.size (Sha.out st) (Sha.zeros 32) rfl rfl (Sha.out_length st) (by simp [Sha.zeros]) HR.out ?_; intro w5 h5 hu5; have H5 := Lib.hid h5; have HU5 := Lib.hid hu5; clear h5 hu5))
          refine ret27 rfl w.heap.size (Sha.out st) (Sha.out_length st) rfl H5.out rfl ⟨?_, (HE3.out.trans HE.out).upd_new HU5.out (Nat.le_refl _)⟩
          rw [← HS.out]
          rfl
    · have e56 : (((m.length : Int) + 1 + (j : Int)) % 64 != 56) = true := by
        simp only [bne_iff_ne]
        have := hpad2 hq
        omega
      clear hpad hpad2
      go_wp2_with (go_at_call 33; go_must (refine (write_any hc kb _ _ _ [0] _ (HJ.out.at_.ext ((Ext.refl wr).alloc _)) (Bs.lit_new wr _ [0] rfl (by decide)) (by simp [Sha.zeros]; omega)).mono ?_; rintro e w3 ⟨rfl, rv3, hH3, hc3, hf3⟩; have HC3 := Lib.hid ((HJ.out.grow ((Ext.refl wr).alloc _)).wrote hH3 hc3 hf3); clear hH3 hc3 hf3))
      go_roundg (gk - 1)
      case measure => omega
      case rel =>
        refine ⟨j + 1, rv3, by omega, ?_⟩
        have e : m ++ [0x80] ++ Sha.zeros (j + 1) = m ++ [0x80] ++ Sha.zeros j ++ [0] := by
          simp [Sha.zeros, List.replicate_succ', List.append_assoc]
        rw [e]
        exact HC3.out
end Go.Proofs.Ytapojpjmeadabaa

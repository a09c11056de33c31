/- Comparing two digests. -/
import Derived.Test.YtapojpjmeadabaaSum
import Derived.Test.YtapojpjmeadabaaRegv
import Derived.ChangeKeysEq
namespace Go.Proofs.Ytapojpjmeadabaa
open Go.RowKit
set_option linter.unusedVariables false
set_option linter.unusedSimpArgs false

theorem plain5 : Try.prog.plainKey 5 = true := by kernel_rfl
theorem cells5 : Try.prog.cellsOf 5 = 1 := by kernel_rfl
theorem run_eq8 (w : World) (d : Nat) (x y : UInt8) : (Op.equalIn (d + 1) 5 (B8 x) (B8 y)).run Try.prog w = .ok (decide (x = y)) w := by
  have h := run_equalIn_int (P := Try.prog) w d 5 .u8 .u8 (i8 x) (i8 y) Try.underlying5
  have e : (i8 x == i8 y) = decide (x = y) := by
    by_cases e : x = y
    · simp [e]
    · have : i8 x ≠ i8 y := fun h => e (i8_inj h)
      simp [e, this]
  rw [e] at h
  exact h
theorem run_eqItems8 (w : World) (d : Nat) (x y : List UInt8) : ∀ is : List Nat, (∀ i ∈ is, i < x.length ∧ i < y.length) →
    (Op.eqItems (d + 1) 5 1 (row8 x) (row8 y) is).run Try.prog w = .ok (is.all fun i => decide (x.getD i 0 = y.getD i 0)) w
  | [], _ => by simp [Op.eqItems]
  | i :: is, h => by
    have hi := h i (by simp)
    simp only [Op.eqItems, Sem.run_bind, Nat.mul_one, run_part_plain w plain5 (row8_get hi.1), run_part_plain w plain5 (row8_get hi.2), Result.andThen_ok, run_eq8]
    by_cases e : x.getD i 0 = y.getD i 0
    · simp only [e, decide_true, Bool.not_true, Bool.false_eq_true, if_false]
      rw [run_eqItems8 w d x y is fun j hj => h j (by simp [hj])]
      rw [List.all_cons, decide_eq_true e, Bool.true_and]
    · simp only [decide_eq_false e, Bool.not_false, if_true, Sem.run_pure, List.all_cons, Bool.false_and]
theorem all_eq32 (x y : List UInt8) (hx : x.length = 32) (hy : y.length = 32) : ((List.range 32).all fun i => decide (x.getD i 0 = y.getD i 0)) = decide (x = y) := by
  by_cases e : x = y
  · simp [e]
  · have : ¬ ∀ i, i < 32 → x.getD i 0 = y.getD i 0 := fun h => e (List.ext_getElem (by omega) fun i h1 h2 => by
      have := h i (by omega)
      simpa [h1, h2] using this)
    simp only [e, decide_false]
    cases h : (List.range 32).all fun i => decide (x.getD i 0 = y.getD i 0)
    · rfl
    · rw [List.all_eq_true] at h
      exact absurd (fun i hi => by simpa using h i (by simpa using hi)) this
theorem run_equal27 (x y : List UInt8) (hx : x.length = 32) (hy : y.length = 32) (w : World) : (Op.equal 27 (Dig x) (Dig y)).run Try.prog w = .ok (decide (x = y)) w := by
  have hs : (Try.prog.info? 5).isSome = true := by kernel_rfl
  obtain ⟨i, hi⟩ := Option.isSome_iff_exists.1 hs
  unfold Op.equal
  rw [show Op.maxDepth = 9998 + 1 + 1 from rfl, run_equalIn_array w (9998 + 1) (row8 x) (row8 y) Try.underlying27 hi, cells5, run_eqItems8 w 9998 x y _ (fun i h => by have := List.mem_range.1 h; omega), all_eq32 x y hx hy]
theorem guard27 : Try.prog.eqGuardType Try.prog.depth 27 = false := by kernel_rfl
theorem run_eql27 (a b : Operand) (x y : List UInt8) (hx : x.length = 32) (hy : y.length = 32) (w : World) :
    (do eqGuard .eql 27 a b (Dig x) (Dig y); binOp .eql 27 (Dig x) (Dig y) : Sem Value).run Try.prog w = .ok (.bool (decide (x = y))) w := by
  simp only [eqGuard, binOp, Sem.run_bind]
  have h := run_equal27 x y hx hy w
  simp [h, guard27]
theorem run_neq27 (a b : Operand) (x y : List UInt8) (hx : x.length = 32) (hy : y.length = 32) (w : World) :
    (do eqGuard .neq 27 a b (Dig x) (Dig y); binOp .neq 27 (Dig x) (Dig y) : Sem Value).run Try.prog w = .ok (.bool (!decide (x = y))) w := by
  simp only [eqGuard, binOp, Sem.run_bind]
  have h := run_equal27 x y hx hy w
  simp [h, guard27]
theorem exec_eq27 {o : Oper} {ρ : Operand → Value} (p q : Operand) (t : TypeId) (ho : o.op = .binOp .eql 27 p q t) (x y : List UInt8) (hp : ρ p = Dig x) (hq : ρ q = Dig y) (hx : x.length = 32) (hy : y.length = 32) (w : World) :
    (execOp ρ o).run Try.prog w = .ok (.value (.bool (decide (x = y)))) w := by
  unfold execOp
  simp only [ho, hp, hq]
  have e := run_eql27 p q x y hx hy w
  rw [Sem.run_bind, e]
  rfl
theorem exec_ne27 {o : Oper} {ρ : Operand → Value} (p q : Operand) (t : TypeId) (ho : o.op = .binOp .neq 27 p q t) (x y : List UInt8) (hp : ρ p = Dig x) (hq : ρ q = Dig y) (hx : x.length = 32) (hy : y.length = 32) (w : World) :
    (execOp ρ o).run Try.prog w = .ok (.value (.bool (!decide (x = y)))) w := by
  unfold execOp
  simp only [ho, hp, hq]
  have e := run_neq27 p q x y hx hy w
  rw [Sem.run_bind, e]
  rfl
/-- An operation whose value is known. -/
theorem wpl_v {P : Program} {ops : Array Oper} {rest : List Oper} {o : Oper} {a : Act} {w : World} {Q : Exit → Act → World → Prop} (hw : Region.wanted o (yielded ops a.tmps) = true) (v : Value)
    (hr : (execOp a.eval o).run P w = .ok (.value v) w) (h : wpList P ops Q rest (a.put o.dst v) w) : wpList P ops Q (o :: rest) a w :=
  wpList_step fun K hK => by
    rw [if_pos hw]
    unfold Oper.wp
    rw [hr]
    exact hK _ _ h
theorem gm_e {P : Program} {ops : Array Oper} {w0 : World} {QG : List Sl → Prop} {rest : List Oper} {o : Oper} {a : Act} {M : Opq} {ds : List Deferred} (hd : a.defers = ds) (hw : Region.wanted o (yielded ops a.tmps) = true) (hsel : notSelB o = true) (hl : noLook ops o M = true) (v : Value)
    (hr : ∀ w, (execOp a.eval o).run P w = .ok (.value v) w)
    (h : wpG P ops (gCls w0) ds QG rest (envM (a.put o.dst v) (M.off o.dst))) : wpG P ops (gCls w0) ds QG (o :: rest) (envM a M) := by
  subst hd
  exact ⟨.v v, gYields_same (notSel hsel) hl (Sl.stable_v _ _) (fun w hC => by
    unfold gStep
    rw [if_pos hw, hr w]
    exact ⟨rfl, Ext.refl _, hC⟩), by rw [envM_put_v]; exact h⟩
/-- Sum of a nil Hash. -/
theorem hsum_nil (w : World) : Calls Try.prog 34 #[.pointer none] w fun e w' => e = .returned (Dig (Sha.zeros 32)) ∧ Ext w w' := by
  go_enter Try.func34, Try.ntmps34
  go_wp2_with (first | (refine wpl_alloc_agg rfl 27 rfl _ zero27.1 ?_) | (refine wpl_store27 rfl _ _ rfl w.heap.size (Sha.zeros 32) (Sha.zeros 32) rfl rfl (by simp [Sha.zeros]) (by simp [Sha.zeros]) (heap_alloc_last w _) ?_; intro w8 h8 hu8; have H8 := Lib.hid h8; have HE8 := Lib.hid (((Ext.refl w).alloc _).upd_new hu8 (Nat.le_refl _)); clear h8 hu8))
  refine ret27 rfl w.heap.size (Sha.zeros 32) (by simp [Sha.zeros]) rfl H8.out rfl ⟨rfl, HE8.out⟩
end Go.Proofs.Ytapojpjmeadabaa

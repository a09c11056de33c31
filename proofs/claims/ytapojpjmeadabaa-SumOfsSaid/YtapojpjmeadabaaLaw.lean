/- What all laws share: arguments opened, the answer shut. -/
import Derived.Test.YtapojpjmeadabaaRows
import Derived.Test.YtapojpjmeadabaaSlice
import Derived.ProofKit
import Derived.OpenShut
import Derived.SizedLaws
namespace Go.Proofs.Ytapojpjmeadabaa
open Go.ChangeShapes Go.WideShapes Go.ChangeAt Go.RowKit
set_option linter.unusedVariables false
set_option linter.unusedSimpArgs false

theorem Try.own : ownKnob Try.prog.godebug = none := by kernel_rfl
theorem Try.laidOut : laidOutB Try.prog = true := by kernel_rfl
theorem cellsOf5 : Try.prog.cellsOf 5 = 1 := by kernel_rfl

section
variable {H : Type} {enc : TypeId × Value → H}
theorem below_trodAll {W W' : World} (hb : Below W.heap.size W W') : ∀ (ts : List TypeId) (vs : List Value) (ds : List (DataW H)) (ps : List MemPlace),
    (∀ t ∈ ts, Try.prog.readableRec t = true ∧ t < Try.prog.types.size) → (∀ x ∈ ps, x.block < W.heap.size) →
    DataW.TrodAll enc Try.prog W 0 (fun _ => true) true ts vs ds ps → DataW.TrodAll enc Try.prog W' 0 (fun b => decide (b < W.heap.size)) true ts vs ds ps
  | [], [], [], ps, _, _, h => h
  | t :: ts, v :: vs, d :: ds, ps, hr, hlt, h => by
    obtain ⟨p, q, h1, h2, rfl⟩ := h
    exact ⟨p, q, Below.trod Try.laidOut (hr t (by simp)).1 (hr t (by simp)).2 h1 hb (fun x hx => hlt x (List.mem_append_left _ hx)),
      below_trodAll hb ts vs ds q (fun t ht => hr t (by simp [ht])) (fun x hx => hlt x (List.mem_append_right _ hx)) h2, rfl⟩
  | [], _ :: _, _, _, _, _, h => by cases h
  | [], [], _ :: _, _, _, _, h => by cases h
  | _ :: _, [], _, _, _, _, h => by cases h
  | _ :: _, _ :: _, [], _, _, _, h => by cases h
/-- The answer of a law that has only made new memory. -/
theorem law_post {f : Func} {s : ChangeSpec} {W W' : World} {args : Array Value} {ds gs : List (DataW H)} {before : List MemPlace} (hvars : s.vars = [])
    (hW : DataW.Whole enc Try.prog f.params.toList s.vars false W args.toList ds gs before) (hrt : f.resultTypes = #[4])
    (hres : (s.fn H ds).results = [.lit (.bool true)]) (hargs : (s.fn H ds).args = ds) (hva : (s.fn H ds).vars = [])
    (hr : ∀ t ∈ f.params.toList, Try.prog.readableRec t = true ∧ t < Try.prog.types.size) (hx : Below W.heap.size W W') :
    s.post enc Try.prog f false true false false W args (.bool true) W' := by
  have hW' := hW
  obtain ⟨p, q, hA, hV, rfl, hfz, hnd⟩ := hW
  rw [hvars] at hV
  obtain ⟨rfl, rfl⟩ := trodVars_none hV
  refine ⟨ds, [], p ++ [], [], p, [], hW', ?_, ?_, ?_, hx.frame _, fun h => by cases h⟩
  · rw [List.append_nil, hres, hrt]
    exact trodAll_mk1 (shut_bool Try.underlying4 true)
  · rw [List.append_nil, hargs]
    exact below_trodAll hx _ _ _ _ hr (fun x hx => hW'.lt x (List.mem_append_left _ hx)) hA
  · rw [List.append_nil, hva, hvars]
    rfl
set_option maxRecDepth 100000 in
theorem open_bs {W : World} {base : Nat} {v : Value} {d : DataW H} {p : List MemPlace} (hval : Value.okWide Try.prog W .any base 23 v) (h : DataW.Trod enc Try.prog W 0 (fun _ => true) true 23 v d p) : ∃ l, Bs W v l := by
  obtain ⟨a1, len, cap, rfl⟩ := okWide_slice Try.underlying23 hval
  obtain ⟨fuel, hf⟩ := h
  rcases open_ints Try.underlying23 Try.underlying5 cellsOf5 hf with ⟨hcs, hx⟩ | ⟨a, len', cap', zs, hcs, _, hl, hm, hz, hx, hcell, hwz⟩
  · simp [Value.cells] at hcs
    obtain ⟨rfl, rfl, rfl⟩ := hcs
    exact ⟨[], Rd.zero (Nat.zero_le _) (fun _ => rfl)⟩
  · simp [Value.cells] at hcs
    obtain ⟨rfl, rfl, rfl⟩ := hcs
    simp only [if_true] at hz
    have hlen : ((zs.take len).map fun n => UInt8.ofNat n.toNat).length = len := by simp; omega
    refine ⟨(zs.take len).map fun n => UInt8.ofNat n.toNat, ?_⟩
    refine Bs.of_rd (n := len) (⟨by rw [List.length_map, hlen]; omega, some a, cap, rfl, hl, hm, (fun h => by cases h), fun h0 => ?_⟩ : Rd W 1 _ len _) hlen.symm rfl
    obtain ⟨ab, ao, spot⟩ := a
    have hspot : spot = none := by simpa [Addr.add] using World.cell?_spot (hcell 0 (by omega))
    subst hspot
    refine ⟨ab, ao, rfl, ?_, fun j u hj => ?_⟩
    · have := World.block_lt_of_cell? W _ (hcell 0 (by omega))
      simpa [Addr.add] using this
    · have hj' : j < len := by
        have := (List.getElem?_eq_some_iff.1 hj).1
        rw [List.length_map, hlen] at this; exact this
      have hcj := hcell j (by omega)
      rw [Addr.add_lit] at hcj
      rw [hcj]
      have hb := range_u8 hwz j
      have e2 : zs[j]?.getD 0 = zs[j]'(by omega) := by simp [List.getElem?_eq_getElem (show j < zs.length by omega)]
      rw [e2] at hb
      have e : zs.getD j 0 = zs[j]'(by omega) := by simp [List.getD, List.getElem?_eq_getElem (show j < zs.length by omega)]
      rw [List.getElem?_map, List.getElem?_map, List.getElem?_take, if_pos hj', List.getElem?_eq_getElem (by omega)] at hj
      simp only [Option.map_some, Option.some.injEq] at hj
      rw [← hj, e]
      congr 1
      show Value.int .u8 _ = Value.int .u8 (i8 _)
      congr 1
      unfold i8
      simp only [UInt8.toNat_ofNat']
      omega
theorem bytesOf5 : Try.prog.bytesOf 5 = 1 := by kernel_rfl
theorem lits_length (k : IntKind) (l : List Int) : (lits (H := H) k l).length = l.length := by simp [lits]
set_option maxRecDepth 100000 in
/-- And what the row's own reach says of its length. -/
theorem open_bs_sized {W : World} {base : Nat} {v : Value} {d : DataW H} {p : List MemPlace} {ts : List TypeId} {ds : List (DataW H)} (hz0 : (DataW.weightsEach Try.prog ts ds).all (· ≤ reachBytes) = true) (j : Nat) (htj : ts[j]? = some 23) (hdj : ds[j]? = some d)
    (hval : Value.okWide Try.prog W .any base 23 v) (h : DataW.Trod enc Try.prog W 0 (fun _ => true) true 23 v d p) : ∃ l, Bs W v l ∧ l.length ≤ 140737488355328 := by
  obtain ⟨l, hl⟩ := open_bs hval h
  refine ⟨l, hl, ?_⟩
  obtain ⟨a1, len, cap, rfl⟩ := okWide_slice Try.underlying23 hval
  obtain ⟨A, c, hv, _⟩ := hl.is
  injection hv with e1 e2 e3
  obtain ⟨fuel, hf⟩ := h
  rcases open_ints Try.underlying23 Try.underlying5 cellsOf5 hf with ⟨hcs, hx⟩ | ⟨a, len', cap', zs, hcs, _, hle, hm, hz, hx, hcell, hwz⟩
  · simp [Value.cells] at hcs
    omega
  · simp [Value.cells] at hcs
    obtain ⟨rfl, rfl, rfl⟩ := hcs
    simp only [if_true] at hz
    simp only [Prod.mk.injEq] at hx
    obtain ⟨rfl, rfl⟩ := hx
    have hs := sized_slice hz0 htj hdj Try.underlying23
    rw [bytesOf5, lits_length, lits_length, List.length_take, List.length_drop] at hs
    have hr := reachBytes_lt
    omega
end
end Go.Proofs.Ytapojpjmeadabaa

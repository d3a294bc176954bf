/- BsonOrder: fields that are set one after another stand in the order in which they came first: the tied card. No condition besides what the row lists. -/
import Derived.Test.YtbkmnhogfegmcaaDoorBsF2
import Derived.Test.YtbkmnhogfegmcaaDoorBsO9
set_option linter.unusedVariables false
set_option linter.unusedSimpArgs false
namespace Go.Proofs.YtbkmnhogfegmcaaDoor
open Go.ChangeShapes Go.WideShapes Go.ChangeAt Go.RowKit

set_option maxRecDepth 100000 in
/-- Numbers of one byte that came in. -/
theorem open_nums {H : Type} {enc : TypeId × Value → H} {W : World} {base : Nat} {q : IntKind} {t e : TypeId} (ht : Tryd.prog.underlying t = some (.slice e)) (he : Tryd.prog.underlying e = some (.int q)) (hc : Tryd.prog.cellsOf e = 1) (hy : Tryd.prog.bytesOf e = 1)
    {v : Value} {d : DataW H} {p : List MemPlace} (hv : Value.okWide Tryd.prog W .any base t v) (h : DataW.Trod enc Tryd.prog W 0 (fun _ => true) true t v d p) (hw : ∀ n ∈ d.weights Tryd.prog t, n ≤ reachBytes) :
    ∃ (a : Option Addr) (n c : Nat) (z : Nat → Int), v = .slice a n c ∧ IntsAt W q a n z ∧ (∀ i, i < n → (Lit.int q (z i)).wf = true) ∧ n ≤ 140737488351232 := by
  obtain ⟨a0, len, cap, rfl⟩ := okWide_slice ht hv
  obtain ⟨fuel, hf⟩ := h
  obtain ⟨a, n, c, hcs, hlc, ha, hn, hel⟩ := elems_of_trod ht hc (by omega) hy (by omega) hf hw
  simp [Value.cells] at hcs
  obtain ⟨rfl, rfl, rfl⟩ := hcs
  have hex : ∀ i, ∃ z : Int, ∀ (_ : i < len), (∃ b o, a0 = some ⟨b, o, none⟩ ∧ W.cell? ⟨b, o + i, none⟩ = some (.int q z)) ∧ (Lit.int q z).wf = true := fun i => by
    by_cases hi : i < len
    · obtain ⟨b, o, cs', y, n', -, h1, h2, h3, h4, h5, -⟩ := hel i hi
      obtain ⟨c', rfl⟩ : ∃ c', cs' = [c'] := by
        match cs', h3 with
        | [c'], _ => exact ⟨c', rfl⟩
      obtain ⟨z, rfl, hwf⟩ := int_of_trod he h5
      exact ⟨z, fun _ => ⟨⟨b, o, h1, by have := h4 0 _ rfl; simpa using this⟩, hwf⟩⟩
    · exact ⟨0, fun h => absurd h hi⟩
  obtain ⟨z, hz⟩ := Classical.axiomOfChoice hex
  exact ⟨a0, len, cap, z, rfl, fun i hi => (hz i hi).1, fun i hi => (hz i hi).2, hn⟩
set_option maxRecDepth 100000 in
theorem order_lifted (os : Os) (started : os.Started) (H : Type) (enc : TypeId × Value → H) (F : Stop.Interp) :
    ReturnsInHanded {} Tryd.checked os 9 .any ((OpenSpec.ofChange Rows.bsonOrderSpec).preRow enc Tryd.prog Tryd.f9 Rows.bsonOrderRow.domain false Rows.bsonOrderRow.laid) (((OpenSpec.ofChange Rows.bsonOrderSpec).at F).post enc Tryd.prog Tryd.f9 false true false false) := by
  obtain ⟨A0, hA0⟩ : ∃ A0 : Array Value, A0 = #[.slice none 0 0, .slice none 0 0] := ⟨_, rfl⟩
  have hx : ∃ places, DataW.whole enc Tryd.prog ((laidWorld os ⟨#[], A0, []⟩).forCall (fun _ _ => 0) ⟨#[], A0, []⟩).memory Tryd.f9.params.toList Rows.bsonOrderSpec.vars false A0.toList 8 = some ([.nil, .nil], [], places) := by subst hA0; exact ⟨[], by kernel_rfl⟩
  obtain ⟨places, hx⟩ := hx
  subst hA0
  refine returnsInHanded_of_row (C := Tryd.checked) (s := OpenSpec.ofChange Rows.bsonOrderSpec) own_ started (by kernel_rfl) Tryd.func9
    (witness_row_at (enc := enc) (C := Tryd.checked) false (laidWorld os ⟨#[], _, []⟩) _ rfl (by kernel_rfl) (by kernel_rfl) (by kernel_rfl)
      (OpenSpec.preRow_of_cond 8 hx (by kernel_rfl) (fun k hk => by cases hk) (by kernel_rfl) (laid_met os))) ?_
  intro W base args ds gs before hval0 hW _ _ hsz0 hL _ _
  have hsz : (DataW.weightsEach Tryd.prog (Tryd.f9.params.toList ++ (OpenSpec.ofChange Rows.bsonOrderSpec).bare.plain.varTypes Tryd.prog) (ds ++ gs)).all (· ≤ reachBytes) = true := hsz0
  have hval : ∀ (j : Nat) t v, Tryd.f9.params[j]? = some t → args[j]? = some v → Value.okWide Tryd.prog W .any base t v := hval0
  have hW' := hW
  obtain ⟨p, q, hA0, hV, rfl, hfz, hnd⟩ := hW
  have hA : DataW.TrodAll enc Tryd.prog W 0 (fun _ => true) true Tryd.f9.params.toList args.toList ds p := hA0
  rw [Tryd.params9] at hA hval hsz
  obtain ⟨v0, vs0, d0, ds0, p0, q0, hargs, rfl, rfl, h0, r0⟩ := trodAll_cons hA
  obtain ⟨v1, vs1, d1, ds1, p1, q1, rfl, rfl, rfl, h1, r1⟩ := trodAll_cons r0
  obtain ⟨rfl, rfl, rfl⟩ := trodAll_nil r1
  obtain rfl : args = #[v0, v1] := by cases args; simp_all
  obtain ⟨rfl, rfl⟩ := trodVars_none hV
  have lt0 : ∀ x ∈ p0, x.block < W.heap.size := by obtain ⟨m, hm⟩ := h0; exact DataW.trod_lt m _ _ _ hm
  have lt1 : ∀ x ∈ p1, x.block < W.heap.size := by obtain ⟨m, hm⟩ := h1; exact DataW.trod_lt m _ _ _ hm
  obtain ⟨a1, n1, c1, z1, rfl, hz1, hw1, hl1⟩ := open_nums Tryd.underlying22 Tryd.underlying5 (by kernel_rfl) (by kernel_rfl) (hval 0 _ v0 rfl rfl) h0 (fun n hn => of_decide_eq_true (List.all_eq_true.1 hsz n (DataW.weights_mem_each (j := 0) rfl rfl n hn)))
  obtain ⟨a2, n2, c2, z2, rfl, hz2, hw2, hl2⟩ := open_nums Tryd.underlying51 Tryd.underlying54 (by kernel_rfl) (by kernel_rfl) (hval 1 _ v1 rfl rfl) h1 (fun n hn => of_decide_eq_true (List.all_eq_true.1 hsz n (DataW.weights_mem_each (j := 1) rfl rfl n hn)))
  clear hA0 hval0 hsz0
  refine (law_order (tw_of_laid hL) hz1 hz2 (fun i hi => bounds_u8 (hw1 i hi)) (fun i hi => bounds_i8 (hw2 i hi)) hl1 hl2).mono fun e W' ⟨he, hs⟩ => ?_
  subst he
  have bel := start_below hs
  exact ⟨_, rfl, _, _, _, [], _, [], hW', trodAll_mk1 (shut_bool Tryd.underlying4 _), (trodAll_cons_mk (Below.trod laid_ (by kernel_rfl) (of_decide_eq_true (by kernel_rfl)) h0 bel lt0) (trodAll_cons_mk (Below.trod laid_ (by kernel_rfl) (of_decide_eq_true (by kernel_rfl)) h1 bel lt1) trodAll_mk0)), rfl, bel.frame _, fun h => by cases h⟩

theorem order_said : Rows.BsonOrderSaid :=
  OpenClaim.holds_of_cond 9 Tryd.f9 rfl rfl rfl rfl rfl rfl rfl ⟨rfl, rfl, rfl, rfl, rfl⟩ rfl rfl rfl rfl rfl (by kernel_rfl) Tryd.func9 (by kernel_rfl)
    (of_decide_eq_true (by kernel_rfl)) (by unfold Func.isWrapper; first | (rw [if_pos (by decide +kernel)]; kernel_rfl) | (rw [if_neg (by decide +kernel)]; exact ⟨rfl, rfl⟩))
    (fun os started H enc _ F => by rw [OpenClaim.pre_eq_preRow]; exact order_lifted os started H enc F)

theorem order_plain (f : FuncId) (fn : Func) (hf : Tryd.pinned.checked.prog.funcNamed "aqueduct/aqueductlaw5.BsonOrder" = some f) (hfn : Tryd.pinned.checked.prog.funcs[f]? = some fn) :
    true = Tryd.pinned.checked.prog.looks [] ∧ ∀ (j : Nat) t, fn.params[j]? = some t → Tryd.pinned.checked.prog.wantsStandIn t = false := by
  obtain rfl : f = 9 := Option.some.inj ((show Tryd.prog.funcNamed "aqueduct/aqueductlaw5.BsonOrder" = some 9 by kernel_rfl).symm.trans hf) |>.symm
  obtain rfl : fn = Tryd.f9 := (Option.some.inj (Tryd.func9.symm.trans hfn)).symm
  refine ⟨by kernel_rfl, fun j t ht => ?_⟩
  rw [Tryd.params9] at ht
  rcases j with _ | _ | j
  · obtain rfl : 22 = t := by simpa using ht
    have h : Tryd.prog.wantsStandIn 22 = false := by kernel_rfl
    exact h
  · obtain rfl : 51 = t := by simpa using ht
    have h : Tryd.prog.wantsStandIn 51 = false := by kernel_rfl
    exact h
  · simp at ht

theorem order_card : Rows.BsonOrderCardSaid :=
  Claim7.holds_tied_plain_at .later [] _ _ _ _ order_said (fun _ h => by cases h) (by kernel_rfl) (fun _ h => by cases h) bsonOrder_row_tie rfl ⟨rfl, rfl⟩ (by kernel_rfl) rfl order_plain (by kernel_rfl)
#print axioms order_card
end Go.Proofs.YtbkmnhogfegmcaaDoor

/- BsonDecodes: any bytes: the document, or the first error; what is one is encoded to the same bytes: the tied card. No condition besides what the row lists. -/
import Derived.Test.YtbkmnhogfegmcaaDoorBsF2
import Derived.Test.YtbkmnhogfegmcaaDoorBsQD
set_option linter.unusedVariables false
set_option linter.unusedSimpArgs false
namespace Go.Proofs.YtbkmnhogfegmcaaDoor
open Go.ChangeShapes Go.WideShapes Go.ChangeAt Go.RowKit

set_option maxRecDepth 100000 in
/-- Bytes that came in as an argument. -/
theorem open_bytes {H : Type} {enc : TypeId × Value → H} {W : World} {base : Nat} {v : Value} {d : DataW H} {p : List MemPlace} (hv : Value.okWide Tryd.prog W .any base 22 v) (h : DataW.Trod enc Tryd.prog W 0 (fun _ => true) true 22 v d p)
    (hw : ∀ n ∈ d.weights Tryd.prog 22, n ≤ reachBytes) : ∃ b : Bs, BIn (fun k => k < W.heap.size) W v b ∧ b.length ≤ 140737488351232 := by
  obtain ⟨a0, len, cap, rfl⟩ := okWide_slice Tryd.underlying22 hv
  obtain ⟨fuel, hf⟩ := h
  obtain ⟨c, b, hc, hb, hl⟩ := bin_of_trod hf hw
  simp only [Value.cells, List.cons.injEq, and_true] at hc
  subst hc
  exact ⟨b, hb, hl⟩
set_option maxRecDepth 100000 in
theorem decodes_lifted (os : Os) (started : os.Started) (H : Type) (enc : TypeId × Value → H) (F : Stop.Interp) :
    ReturnsInHanded {} Tryd.checked os 3 .any ((OpenSpec.ofChange Rows.bsonDecodesSpec).preRow enc Tryd.prog Tryd.f3 Rows.bsonDecodesRow.domain false Rows.bsonDecodesRow.laid) (((OpenSpec.ofChange Rows.bsonDecodesSpec).at F).post enc Tryd.prog Tryd.f3 false true false false) := by
  obtain ⟨A0, hA0⟩ : ∃ A0 : Array Value, A0 = #[.slice none 0 0] := ⟨_, rfl⟩
  have hx : ∃ places, DataW.whole enc Tryd.prog ((laidWorld os ⟨#[], A0, []⟩).forCall (fun _ _ => 0) ⟨#[], A0, []⟩).memory Tryd.f3.params.toList Rows.bsonDecodesSpec.vars false A0.toList 8 = some ([.nil], [], places) := by subst hA0; exact ⟨[], by kernel_rfl⟩
  obtain ⟨places, hx⟩ := hx
  subst hA0
  refine returnsInHanded_of_row (C := Tryd.checked) (s := OpenSpec.ofChange Rows.bsonDecodesSpec) own_ started (by kernel_rfl) Tryd.func3
    (witness_row_at (enc := enc) (C := Tryd.checked) false (laidWorld os ⟨#[], _, []⟩) _ rfl (by kernel_rfl) (by kernel_rfl) (by kernel_rfl)
      (OpenSpec.preRow_of_cond 8 hx (by kernel_rfl) (fun k hk => by cases hk) (by kernel_rfl) (laid_met os))) ?_
  intro W base args ds gs before hval0 hW _ _ hsz0 hL _ _
  have hsz : (DataW.weightsEach Tryd.prog (Tryd.f3.params.toList ++ (OpenSpec.ofChange Rows.bsonDecodesSpec).bare.plain.varTypes Tryd.prog) (ds ++ gs)).all (· ≤ reachBytes) = true := hsz0
  have hval : ∀ (j : Nat) t v, Tryd.f3.params[j]? = some t → args[j]? = some v → Value.okWide Tryd.prog W .any base t v := hval0
  have hW' := hW
  obtain ⟨p, q, hA0, hV, rfl, hfz, hnd⟩ := hW
  have hA : DataW.TrodAll enc Tryd.prog W 0 (fun _ => true) true Tryd.f3.params.toList args.toList ds p := hA0
  rw [Tryd.params3] at hA hval hsz
  obtain ⟨v0, vs0, d0, ds0, p0, q0, hargs, rfl, rfl, h0, r0⟩ := trodAll_cons hA
  obtain ⟨rfl, rfl, rfl⟩ := trodAll_nil r0
  obtain rfl : args = #[v0] := by cases args; simp_all
  obtain ⟨rfl, rfl⟩ := trodVars_none hV
  have lt0 : ∀ x ∈ p0, x.block < W.heap.size := by obtain ⟨m, hm⟩ := h0; exact DataW.trod_lt m _ _ _ hm
  obtain ⟨bs, hb, hbl⟩ := open_bytes (hval 0 _ v0 rfl rfl) h0 (fun n hn => of_decide_eq_true (List.all_eq_true.1 hsz n (DataW.weights_mem_each (j := 0) rfl rfl n hn)))
  clear hA0 hval0 hsz0
  refine (law_decodes (tw_of_laid hL) hb hbl).mono fun e W' ⟨he, hs⟩ => ?_
  subst he
  have bel := start_below hs
  exact ⟨_, rfl, _, _, _, [], _, [], hW', trodAll_mk1 (shut_bool Tryd.underlying4 _), (trodAll_cons_mk (Below.trod laid_ (by kernel_rfl) (of_decide_eq_true (by kernel_rfl)) h0 bel lt0) trodAll_mk0), rfl, bel.frame _, fun h => by cases h⟩

theorem decodes_said : Rows.BsonDecodesSaid :=
  OpenClaim.holds_of_cond 3 Tryd.f3 rfl rfl rfl rfl rfl rfl rfl ⟨rfl, rfl, rfl, rfl, rfl⟩ rfl rfl rfl rfl rfl (by kernel_rfl) Tryd.func3 (by kernel_rfl)
    (of_decide_eq_true (by kernel_rfl)) (by unfold Func.isWrapper; first | (rw [if_pos (by decide +kernel)]; kernel_rfl) | (rw [if_neg (by decide +kernel)]; exact ⟨rfl, rfl⟩))
    (fun os started H enc _ F => by rw [OpenClaim.pre_eq_preRow]; exact decodes_lifted os started H enc F)

theorem decodes_plain (f : FuncId) (fn : Func) (hf : Tryd.pinned.checked.prog.funcNamed "aqueduct/aqueductlaw5.BsonDecodes" = some f) (hfn : Tryd.pinned.checked.prog.funcs[f]? = some fn) :
    true = Tryd.pinned.checked.prog.looks [] ∧ ∀ (j : Nat) t, fn.params[j]? = some t → Tryd.pinned.checked.prog.wantsStandIn t = false := by
  obtain rfl : f = 3 := Option.some.inj ((show Tryd.prog.funcNamed "aqueduct/aqueductlaw5.BsonDecodes" = some 3 by kernel_rfl).symm.trans hf) |>.symm
  obtain rfl : fn = Tryd.f3 := (Option.some.inj (Tryd.func3.symm.trans hfn)).symm
  refine ⟨by kernel_rfl, fun j t ht => ?_⟩
  rw [Tryd.params3] at ht
  rcases j with _ | j
  · obtain rfl : 22 = t := by simpa using ht
    have h : Tryd.prog.wantsStandIn 22 = false := by kernel_rfl
    exact h
  · simp at ht

theorem decodes_card : Rows.BsonDecodesCardSaid :=
  Claim7.holds_tied_plain_at .later [] _ _ _ _ decodes_said (fun _ h => by cases h) (by kernel_rfl) (fun _ h => by cases h) bsonDecodes_row_tie rfl ⟨rfl, rfl⟩ (by kernel_rfl) rfl decodes_plain (by kernel_rfl)
#print axioms decodes_card
end Go.Proofs.YtbkmnhogfegmcaaDoor

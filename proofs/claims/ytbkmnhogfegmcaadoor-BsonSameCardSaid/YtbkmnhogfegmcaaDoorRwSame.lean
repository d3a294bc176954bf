/- BsonSame: two values are the same just if all is alike; a copy is one of its own: the tied card. No condition besides what the row lists. -/
import Derived.Test.YtbkmnhogfegmcaaDoorBsF2
import Derived.Test.YtbkmnhogfegmcaaDoorBsC8
set_option linter.unusedVariables false
set_option linter.unusedSimpArgs false
namespace Go.Proofs.YtbkmnhogfegmcaaDoor
open Go.ChangeShapes Go.WideShapes Go.ChangeAt Go.RowKit

set_option maxRecDepth 100000 in
theorem same_lifted (os : Os) (started : os.Started) (H : Type) (enc : TypeId × Value → H) (F : Stop.Interp) :
    ReturnsInHanded {} Tryd.checked os 8 .any ((OpenSpec.ofChange Rows.bsonSameSpec).preRow enc Tryd.prog Tryd.f8 Rows.bsonSameRow.domain false Rows.bsonSameRow.laid) (((OpenSpec.ofChange Rows.bsonSameSpec).at F).post enc Tryd.prog Tryd.f8 false true false false) := by
  obtain ⟨A0, hA0⟩ : ∃ A0 : Array Value, A0 = #[.agg #[.int .i64 0, .int .i64 0, .string ByteArray.empty, .slice none 0 0, .slice none 0 0, .slice none 0 0], .agg #[.int .i64 0, .int .i64 0, .string ByteArray.empty, .slice none 0 0, .slice none 0 0, .slice none 0 0]] := ⟨_, rfl⟩
  have hx : ∃ places, DataW.whole enc Tryd.prog ((laidWorld os ⟨#[], A0, []⟩).forCall (fun _ _ => 0) ⟨#[], A0, []⟩).memory Tryd.f8.params.toList Rows.bsonSameSpec.vars false A0.toList 8 = some ([.agg [.lit (.int .i64 0), .lit (.int .i64 0), .lit (.string []), .nil, .nil, .nil], .agg [.lit (.int .i64 0), .lit (.int .i64 0), .lit (.string []), .nil, .nil, .nil]], [], places) := by subst hA0; exact ⟨[], by kernel_rfl⟩
  obtain ⟨places, hx⟩ := hx
  subst hA0
  refine returnsInHanded_of_row (C := Tryd.checked) (s := OpenSpec.ofChange Rows.bsonSameSpec) own_ started (by kernel_rfl) Tryd.func8
    (witness_row_at (enc := enc) (C := Tryd.checked) false (laidWorld os ⟨#[], _, []⟩) _ rfl (by kernel_rfl) (by kernel_rfl) (by kernel_rfl)
      (OpenSpec.preRow_of_cond 8 hx (by kernel_rfl) (fun k hk => by cases hk) (by kernel_rfl) (laid_met os))) ?_
  intro W base args ds gs before hval0 hW _ _ hsz0 hL _ _
  have hsz : (DataW.weightsEach Tryd.prog (Tryd.f8.params.toList ++ (OpenSpec.ofChange Rows.bsonSameSpec).bare.plain.varTypes Tryd.prog) (ds ++ gs)).all (· ≤ reachBytes) = true := hsz0
  have hval : ∀ (j : Nat) t v, Tryd.f8.params[j]? = some t → args[j]? = some v → Value.okWide Tryd.prog W .any base t v := hval0
  have hW' := hW
  obtain ⟨p, q, hA0, hV, rfl, hfz, hnd⟩ := hW
  have hA : DataW.TrodAll enc Tryd.prog W 0 (fun _ => true) true Tryd.f8.params.toList args.toList ds p := hA0
  rw [Tryd.params8] at hA hval hsz
  obtain ⟨v0, vs0, d0, ds0, p0, q0, hargs, rfl, rfl, h0, r0⟩ := trodAll_cons hA
  obtain ⟨v1, vs1, d1, ds1, p1, q1, rfl, rfl, rfl, h1, r1⟩ := trodAll_cons r0
  obtain ⟨rfl, rfl, rfl⟩ := trodAll_nil r1
  obtain rfl : args = #[v0, v1] := by cases args; simp_all
  obtain ⟨rfl, rfl⟩ := trodVars_none hV
  have lt0 : ∀ x ∈ p0, x.block < W.heap.size := by obtain ⟨m, hm⟩ := h0; exact DataW.trod_lt m _ _ _ hm
  have lt1 : ∀ x ∈ p1, x.block < W.heap.size := by obtain ⟨m, hm⟩ := h1; exact DataW.trod_lt m _ _ _ hm
  obtain ⟨x, cs, rfl, hx⟩ := open_value (hval 0 _ v0 rfl rfl) h0 (fun n hn => of_decide_eq_true (List.all_eq_true.1 hsz n (DataW.weights_mem_each (j := 0) rfl rfl n hn)))
  obtain ⟨y, ds', rfl, hy⟩ := open_value (hval 1 _ v1 rfl rfl) h1 (fun n hn => of_decide_eq_true (List.all_eq_true.1 hsz n (DataW.weights_mem_each (j := 1) rfl rfl n hn)))
  clear hA0 hval0 hsz0
  refine (law_same (tw_of_laid hL) hx hy).mono fun e W' ⟨he, hs⟩ => ?_
  subst he
  have bel := start_below hs
  exact ⟨_, rfl, _, _, _, [], _, [], hW', trodAll_mk1 (shut_bool Tryd.underlying4 _), (trodAll_cons_mk (Below.trod laid_ (by kernel_rfl) (of_decide_eq_true (by kernel_rfl)) h0 bel lt0) (trodAll_cons_mk (Below.trod laid_ (by kernel_rfl) (of_decide_eq_true (by kernel_rfl)) h1 bel lt1) trodAll_mk0)), rfl, bel.frame _, fun h => by cases h⟩

theorem same_said : Rows.BsonSameSaid :=
  OpenClaim.holds_of_cond 8 Tryd.f8 rfl rfl rfl rfl rfl rfl rfl ⟨rfl, rfl, rfl, rfl, rfl⟩ rfl rfl rfl rfl rfl (by kernel_rfl) Tryd.func8 (by kernel_rfl)
    (of_decide_eq_true (by kernel_rfl)) (by unfold Func.isWrapper; first | (rw [if_pos (by decide +kernel)]; kernel_rfl) | (rw [if_neg (by decide +kernel)]; exact ⟨rfl, rfl⟩))
    (fun os started H enc _ F => by rw [OpenClaim.pre_eq_preRow]; exact same_lifted os started H enc F)

theorem same_plain (f : FuncId) (fn : Func) (hf : Tryd.pinned.checked.prog.funcNamed "aqueduct/aqueductlaw5.BsonSame" = some f) (hfn : Tryd.pinned.checked.prog.funcs[f]? = some fn) :
    true = Tryd.pinned.checked.prog.looks [] ∧ ∀ (j : Nat) t, fn.params[j]? = some t → Tryd.pinned.checked.prog.wantsStandIn t = false := by
  obtain rfl : f = 8 := Option.some.inj ((show Tryd.prog.funcNamed "aqueduct/aqueductlaw5.BsonSame" = some 8 by kernel_rfl).symm.trans hf) |>.symm
  obtain rfl : fn = Tryd.f8 := (Option.some.inj (Tryd.func8.symm.trans hfn)).symm
  refine ⟨by kernel_rfl, fun j t ht => ?_⟩
  rw [Tryd.params8] at ht
  rcases j with _ | _ | j
  · obtain rfl : 27 = t := by simpa using ht
    have h : Tryd.prog.wantsStandIn 27 = false := by kernel_rfl
    exact h
  · obtain rfl : 27 = t := by simpa using ht
    have h : Tryd.prog.wantsStandIn 27 = false := by kernel_rfl
    exact h
  · simp at ht

theorem same_card : Rows.BsonSameCardSaid :=
  Claim7.holds_tied_plain_at .later [] _ _ _ _ same_said (fun _ h => by cases h) (by kernel_rfl) (fun _ h => by cases h) bsonSame_row_tie rfl ⟨rfl, rfl⟩ (by kernel_rfl) rfl same_plain (by kernel_rfl)
#print axioms same_card
end Go.Proofs.YtbkmnhogfegmcaaDoor

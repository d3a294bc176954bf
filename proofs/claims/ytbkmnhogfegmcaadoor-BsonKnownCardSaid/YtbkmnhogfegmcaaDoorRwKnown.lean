/- BsonKnown: documents that everybody knows, bytes that are none, each by its error: the tied card. No condition besides what the row lists. -/
import Derived.Test.YtbkmnhogfegmcaaDoorBsF
import Derived.Test.YtbkmnhogfegmcaaDoorBsK3
set_option linter.unusedVariables false
set_option linter.unusedSimpArgs false
namespace Go.Proofs.YtbkmnhogfegmcaaDoor
open Go.ChangeShapes Go.WideShapes Go.ChangeAt Go.RowKit

set_option maxRecDepth 100000 in
theorem known_lifted (os : Os) (started : os.Started) (H : Type) (enc : TypeId × Value → H) (F : Stop.Interp) :
    ReturnsInHanded {} Tryd.checked os 6 .any ((OpenSpec.ofChange Rows.bsonKnownSpec).preRow enc Tryd.prog Tryd.f6 Rows.bsonKnownRow.domain false Rows.bsonKnownRow.laid) (((OpenSpec.ofChange Rows.bsonKnownSpec).at F).post enc Tryd.prog Tryd.f6 false true false false) := by
  have hx : ∃ places, DataW.whole enc Tryd.prog ((laidWorld os ⟨#[], #[], []⟩).forCall (fun _ _ => 0) ⟨#[], #[], []⟩).memory Tryd.f6.params.toList Rows.bsonKnownSpec.vars false (#[] : Array Value).toList 8 = some ([], [], places) := ⟨[], by kernel_rfl⟩
  obtain ⟨places, hx⟩ := hx
  refine returnsInHanded_of_row (C := Tryd.checked) (s := OpenSpec.ofChange Rows.bsonKnownSpec) own_ started (by kernel_rfl) Tryd.func6
    (witness_row_at (enc := enc) (C := Tryd.checked) false (laidWorld os ⟨#[], #[], []⟩) #[] rfl (by kernel_rfl) (by kernel_rfl) (by kernel_rfl)
      (OpenSpec.preRow_of_cond 8 hx (by kernel_rfl) (fun k hk => by cases hk) (by kernel_rfl) (laid_met os))) ?_
  intro W base args ds gs before hval0 hW _ _ _ hL _ _
  have hW' := hW
  obtain ⟨p, q, hA0, hV, rfl, hfz, hnd⟩ := hW
  have hA : DataW.TrodAll enc Tryd.prog W 0 (fun _ => true) true Tryd.f6.params.toList args.toList ds p := hA0
  rw [Tryd.params6] at hA
  obtain ⟨hargs, rfl, rfl⟩ := trodAll_nil hA
  obtain rfl : args = #[] := by cases args; simp_all
  obtain ⟨rfl, rfl⟩ := trodVars_none hV
  clear hA0 hval0
  refine (law_known W (tw_of_laid hL)).mono fun e W' ⟨he, hs⟩ => ?_
  subst he
  have bel := start_below hs
  exact ⟨_, rfl, _, _, _, [], _, [], hW', trodAll_mk1 (shut_bool Tryd.underlying4 _), trodAll_mk0, rfl, bel.frame _, fun h => by cases h⟩

theorem known_said : Rows.BsonKnownSaid :=
  OpenClaim.holds_of_cond 6 Tryd.f6 rfl rfl rfl rfl rfl rfl rfl ⟨rfl, rfl, rfl, rfl, rfl⟩ rfl rfl rfl rfl rfl (by kernel_rfl) Tryd.func6 (by kernel_rfl)
    (of_decide_eq_true (by kernel_rfl)) (by unfold Func.isWrapper; first | (rw [if_pos (by decide +kernel)]; kernel_rfl) | (rw [if_neg (by decide +kernel)]; exact ⟨rfl, rfl⟩))
    (fun os started H enc _ F => by rw [OpenClaim.pre_eq_preRow]; exact known_lifted os started H enc F)

theorem known_plain (f : FuncId) (fn : Func) (hf : Tryd.pinned.checked.prog.funcNamed "aqueduct/aqueductlaw5.BsonKnown" = some f) (hfn : Tryd.pinned.checked.prog.funcs[f]? = some fn) :
    true = Tryd.pinned.checked.prog.looks [] ∧ ∀ (j : Nat) t, fn.params[j]? = some t → Tryd.pinned.checked.prog.wantsStandIn t = false := by
  obtain rfl : f = 6 := Option.some.inj ((show Tryd.prog.funcNamed "aqueduct/aqueductlaw5.BsonKnown" = some 6 by kernel_rfl).symm.trans hf) |>.symm
  obtain rfl : fn = Tryd.f6 := (Option.some.inj (Tryd.func6.symm.trans hfn)).symm
  refine ⟨by kernel_rfl, fun j t ht => ?_⟩
  rw [Tryd.params6] at ht
  simp at ht

theorem known_card : Rows.BsonKnownCardSaid :=
  Claim7.holds_tied_plain_at .later [] _ _ _ _ known_said (fun _ h => by cases h) (by kernel_rfl) (fun _ h => by cases h) bsonKnown_row_tie rfl ⟨rfl, rfl⟩ (by kernel_rfl) rfl known_plain (by kernel_rfl)
#print axioms known_card
end Go.Proofs.YtbkmnhogfegmcaaDoor

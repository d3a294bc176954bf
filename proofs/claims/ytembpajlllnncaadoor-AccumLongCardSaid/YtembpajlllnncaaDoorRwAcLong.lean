/- AccumLong: a list that would be too long takes no more, one that comes again in a set is no more: the tied card. No condition besides what the row lists. -/
import Derived.Test.YtembpajlllnncaaDoorAcF
import Derived.Test.YtembpajlllnncaaDoorAcLs
set_option linter.unusedVariables false
set_option linter.unusedSimpArgs false
namespace Go.Proofs.YtembpajlllnncaaDoor
open Go.ChangeShapes Go.WideShapes Go.ChangeAt Go.RowKit

set_option maxRecDepth 100000 in
theorem long_lifted (os : Os) (started : os.Started) (H : Type) (enc : TypeId × Value → H) (F : Stop.Interp) :
    ReturnsInHanded {} Tryd.checked os 3 .any ((OpenSpec.ofChange Rows.accumLongSpec).preRow enc Tryd.prog Tryd.f3 Rows.accumLongRow.domain false Rows.accumLongRow.laid) (((OpenSpec.ofChange Rows.accumLongSpec).at F).post enc Tryd.prog Tryd.f3 false true false false) := by
  obtain ⟨A0, hA0⟩ : ∃ A0 : Array Value, A0 = #[.int .u16 0, .int .u8 0, .bool false] := ⟨_, rfl⟩
  have hx : ∃ places, DataW.whole enc Tryd.prog ((laidWorld os ⟨#[], A0, []⟩).forCall (fun _ _ => 0) ⟨#[], A0, []⟩).memory Tryd.f3.params.toList Rows.accumLongSpec.vars false A0.toList 8 = some ([.lit (.int .u16 0), .lit (.int .u8 0), .lit (.bool false)], [], places) := by subst hA0; exact ⟨[], by kernel_rfl⟩
  obtain ⟨places, hx⟩ := hx
  subst hA0
  refine returnsInHanded_of_row (C := Tryd.checked) (s := OpenSpec.ofChange Rows.accumLongSpec) own_ started (by kernel_rfl) Tryd.func3
    (witness_row_at (enc := enc) (C := Tryd.checked) false (laidWorld os ⟨#[], _, []⟩) _ rfl (by kernel_rfl) (by kernel_rfl) (by kernel_rfl)
      (OpenSpec.preRow_of_cond 8 hx (by kernel_rfl) (fun k hk => by cases hk) (by kernel_rfl) (laid_met os))) ?_
  intro W base args ds gs before hval0 hW _ _ hsz0 hL _ _
  have hsz : (DataW.weightsEach Tryd.prog (Tryd.f3.params.toList ++ (OpenSpec.ofChange Rows.accumLongSpec).bare.plain.varTypes Tryd.prog) (ds ++ gs)).all (· ≤ reachBytes) = true := hsz0
  have hval : ∀ (j : Nat) t v, Tryd.f3.params[j]? = some t → args[j]? = some v → Value.okWide Tryd.prog W .any base t v := hval0
  have hW' := hW
  obtain ⟨p, q, hA0, hV, rfl, hfz, hnd⟩ := hW
  have hA : DataW.TrodAll enc Tryd.prog W 0 (fun _ => true) true Tryd.f3.params.toList args.toList ds p := hA0
  rw [Tryd.params3] at hA hval hsz
  obtain ⟨v0, vs0, d0, ds0, p0, q0, hargs, rfl, rfl, h0, r0⟩ := trodAll_cons hA
  obtain ⟨v1, vs1, d1, ds1, p1, q1, rfl, rfl, rfl, h1, r1⟩ := trodAll_cons r0
  obtain ⟨v2, vs2, d2, ds2, p2, q2, rfl, rfl, rfl, h2, r2⟩ := trodAll_cons r1
  obtain ⟨rfl, rfl, rfl⟩ := trodAll_nil r2
  obtain rfl : args = #[v0, v1, v2] := by cases args; simp_all
  obtain ⟨rfl, rfl⟩ := trodVars_none hV
  obtain ⟨a0, rfl, rfl, rfl, w0⟩ := open_int Tryd.underlying22 (hval 0 _ v0 rfl rfl) h0
  obtain ⟨a1, rfl, rfl, rfl, w1⟩ := open_int Tryd.underlying5 (hval 1 _ v1 rfl rfl) h1
  obtain ⟨a2, rfl, rfl, rfl⟩ := open_bool Tryd.underlying4 (hval 2 _ v2 rfl rfl) h2
  clear hA0 hval0 hsz0
  have hx0 := bounds_u16 w0
  have hx1 := bounds_u8 w1
  obtain ⟨n0, rfl⟩ := Int.eq_ofNat_of_zero_le hx0.1
  obtain ⟨n1, rfl⟩ := Int.eq_ofNat_of_zero_le hx1.1
  refine (law_long W n0 n1 a2 (by omega) (by omega) (tw_of_laid hL)).mono fun e W' ⟨he, hs⟩ => ?_
  subst he
  have bel := start_below hs
  exact ⟨_, rfl, _, _, _, [], _, [], hW', trodAll_mk1 (shut_bool Tryd.underlying4 _), (trodAll_cons_mk (shut_int Tryd.underlying22 w0) (trodAll_cons_mk (shut_int Tryd.underlying5 w1) (trodAll_cons_mk (shut_bool Tryd.underlying4 a2) trodAll_mk0))), rfl, bel.frame _, fun h => by cases h⟩

theorem long_said : Rows.AccumLongSaid :=
  OpenClaim.holds_of_cond 3 Tryd.f3 rfl rfl rfl rfl rfl rfl rfl ⟨rfl, rfl, rfl, rfl, rfl⟩ rfl rfl rfl rfl rfl (by kernel_rfl) Tryd.func3 (by kernel_rfl)
    (of_decide_eq_true (by kernel_rfl)) (by unfold Func.isWrapper; first | (rw [if_pos (by decide +kernel)]; kernel_rfl) | (rw [if_neg (by decide +kernel)]; exact ⟨rfl, rfl⟩))
    (fun os started H enc _ F => by rw [OpenClaim.pre_eq_preRow]; exact long_lifted os started H enc F)

theorem long_plain (f : FuncId) (fn : Func) (hf : Tryd.pinned.checked.prog.funcNamed "aqueduct/aqueductlaw12.AccumLong" = some f) (hfn : Tryd.pinned.checked.prog.funcs[f]? = some fn) :
    true = Tryd.pinned.checked.prog.looks [] ∧ ∀ (j : Nat) t, fn.params[j]? = some t → Tryd.pinned.checked.prog.wantsStandIn t = false := by
  obtain rfl : f = 3 := Option.some.inj ((show Tryd.prog.funcNamed "aqueduct/aqueductlaw12.AccumLong" = some 3 by kernel_rfl).symm.trans hf) |>.symm
  obtain rfl : fn = Tryd.f3 := (Option.some.inj (Tryd.func3.symm.trans hfn)).symm
  refine ⟨by kernel_rfl, fun j t ht => ?_⟩
  rw [Tryd.params3] at ht
  rcases j with _ | _ | _ | j
  · obtain rfl : 22 = t := by simpa using ht
    have h : Tryd.prog.wantsStandIn 22 = false := by kernel_rfl
    exact h
  · obtain rfl : 5 = t := by simpa using ht
    have h : Tryd.prog.wantsStandIn 5 = false := by kernel_rfl
    exact h
  · obtain rfl : 4 = t := by simpa using ht
    have h : Tryd.prog.wantsStandIn 4 = false := by kernel_rfl
    exact h
  · simp at ht

theorem long_card : Rows.AccumLongCardSaid :=
  Claim7.holds_tied_plain_at .later [] _ _ _ _ long_said (fun _ h => by cases h) (by kernel_rfl) (fun _ h => by cases h) accumLong_row_tie rfl ⟨rfl, rfl⟩ (by kernel_rfl) rfl long_plain (by kernel_rfl)
#print axioms long_card
end Go.Proofs.YtembpajlllnncaaDoor

/- TapeEdges: records that end about a page's end: the statement. No condition besides. -/
import Derived.Test.YtlppoimdfclbaaaFrame
import Derived.Test.YtlppoimdfclbaaaLawEdges
import Derived.Laws.IdiomArrays
set_option linter.unusedVariables false
set_option linter.unusedSimpArgs false
namespace Go.Proofs.Ytlppoimdfclbaaa
open Go.ChangeShapes Go.WideShapes Go.ChangeAt Go.RowKit Go.Deep

set_option maxRecDepth 100000 in
/-- Three numbers by value. -/
theorem open_three {H : Type} {enc : TypeId × Value → H} {W : World} {base : Nat} {t e : TypeId} {k : IntKind} {v : Value} {d : DataW H} {p : List MemPlace} (ht : Try.prog.underlying t = some (.array 3 e)) (he : Try.prog.underlying e = some (.int k)) (hce : Try.prog.cellsOf e = 1) (hct : Try.prog.cellsOf t = 3)
    (hv : Value.okWide Try.prog W .any base t v) (h : DataW.Trod enc Try.prog W 0 (fun _ => true) true t v d p) :
    ∃ a b c : Int, v = .agg #[.int k a, .int k b, .int k c] ∧ (Lit.int k a).wf = true ∧ (Lit.int k b).wf = true ∧ (Lit.int k c).wf = true := by
  simp only [Value.okWide, ht] at hv
  obtain ⟨cs, rfl, hsz, _⟩ := hv
  rw [hct] at hsz
  obtain ⟨l⟩ := cs
  match l, hsz with
  | [c0, c1, c2], _ =>
    obtain ⟨fuel, hf⟩ := h
    obtain ⟨xs, m, _, _, _, hlen, hg⟩ := DataW.trod_array ht hf
    have h0 := hg 0 (by omega)
    have h1 := hg 1 (by omega)
    have h2 := hg 2 (by omega)
    rw [hce] at h0 h1 h2
    match xs, hlen with
    | [x0, x1, x2], _ =>
      simp [Value.cells] at h0 h1 h2
      obtain ⟨a, e0, _, wa⟩ := DataW.trod_int he h0
      obtain ⟨b, e1, _, wb⟩ := DataW.trod_int he h1
      obtain ⟨c, e2, _, wc⟩ := DataW.trod_int he h2
      simp at e0 e1 e2
      subst e0 e1 e2
      exact ⟨a, b, c, rfl, wa, wb, wc⟩

set_option maxRecDepth 100000 in
theorem edges_lifted (os : Os) (started : os.Started) (H : Type) (enc : TypeId × Value → H) :
    ReturnsInHanded {} Try.checked os 5 .any (Rows.tapeEdgesSpec.pre6 enc Try.prog Try.f5 Rows.tapeEdgesRow.domain false) (Rows.tapeEdgesSpec.post enc Try.prog Try.f5 false true false false) := by
  refine returnsInHanded_of_change_sized (C := Try.checked) own_ started (by kernel_rfl) Try.func5
    (ChangeSpec.witness6 (enc := enc) (C := Try.checked) false ⟨#[], #[.int .u8 0, .agg #[.int .u8 0, .int .u8 0, .int .u8 0]], []⟩ 8 (by kernel_rfl) (by kernel_rfl) (by kernel_rfl) (by kernel_rfl)) ?_
  intro W base args ds gs before hval0 hW _ hsz0 _
  have hsz : (DataW.weightsEach Try.prog (Try.f5.params.toList ++ Rows.tapeEdgesSpec.plain.varTypes Try.prog) (ds ++ gs)).all (· ≤ reachBytes) = true := hsz0
  have hval : ∀ (j : Nat) t v, Try.f5.params[j]? = some t → args[j]? = some v → Value.okWide Try.prog W .any base t v := hval0
  have hW' := hW
  obtain ⟨p, q, hA0, hV, rfl, hfz, hnd⟩ := hW
  have hA : DataW.TrodAll enc Try.prog W 0 (fun _ => true) true Try.f5.params.toList args.toList ds p := hA0
  rw [Try.params5] at hA hval hsz
  obtain ⟨v0, vs0, d0, ds0, p0, q0, hargs, rfl, rfl, h0, r0⟩ := trodAll_cons hA
  obtain ⟨v1, vs1, d1, ds1, p1, q1, rfl, rfl, rfl, h1, r1⟩ := trodAll_cons r0
  obtain ⟨rfl, rfl, rfl⟩ := trodAll_nil r1
  obtain rfl : args = #[v0, v1] := by cases args; simp_all
  obtain ⟨rfl, rfl⟩ := trodVars_none hV
  obtain ⟨a0, rfl, rfl, rfl, w0⟩ := open_int Try.underlying5 (hval 0 _ v0 rfl rfl) h0
  have lt1 : ∀ x ∈ p1, x.block < W.heap.size := by obtain ⟨m, hm⟩ := h1; exact DataW.trod_lt m _ _ _ hm
  obtain ⟨a, b, e, rfl, wa, wb, wc⟩ := open_three Try.underlying56 Try.underlying5 (by kernel_rfl) (by kernel_rfl) (hval 1 _ v1 rfl rfl) h1
  clear hA0 hval0 hsz0
  have hx := bounds_u8 w0
  have ha := bounds_u8 wa
  have hbb := bounds_u8 wb
  have hc := bounds_u8 wc
  obtain ⟨pg, rfl⟩ := Int.eq_ofNat_of_zero_le hx.1
  obtain ⟨n0, rfl⟩ := Int.eq_ofNat_of_zero_le ha.1
  obtain ⟨n1, rfl⟩ := Int.eq_ofNat_of_zero_le hbb.1
  obtain ⟨n2, rfl⟩ := Int.eq_ofNat_of_zero_le hc.1
  refine (law_edges (g := id) pg n0 n1 n2 (by omega) (by omega) (by omega) (by omega) (start_wf W)).mono fun e' W' ⟨he, g', hs⟩ => ?_
  subst he
  have bel := start_below hs
  exact ⟨_, rfl, _, _, _, [], _, [], hW', trodAll_mk1 (shut_bool Try.underlying4 _), (trodAll_cons_mk (shut_int Try.underlying5 w0) (trodAll_cons_mk (Below.trod laid_ (by kernel_rfl) (of_decide_eq_true (by kernel_rfl)) h1 bel lt1) trodAll_mk0)), rfl, bel.frame _, fun h => by cases h⟩

theorem edges_over : Rows.tapeEdgesRow.holds Try.pinned (OpenSpec.ofChange Rows.tapeEdgesSpec) :=
  OpenClaim.holds_of_wide 5 Try.f5 rfl rfl rfl rfl rfl rfl rfl ⟨rfl, rfl, rfl, rfl, rfl⟩ rfl rfl rfl rfl rfl (by kernel_rfl) Try.func5 (by kernel_rfl)
    (of_decide_eq_true (by kernel_rfl)) (by unfold Func.isWrapper; first | (rw [if_pos (by decide +kernel)]; kernel_rfl) | (rw [if_neg (by decide +kernel)]; exact ⟨rfl, rfl⟩))
    (fun os started H enc _ => edges_lifted os started H enc)

theorem edges_holds : Rows.TapeEdgesSaid := edges_over
#print axioms edges_holds
end Go.Proofs.Ytlppoimdfclbaaa

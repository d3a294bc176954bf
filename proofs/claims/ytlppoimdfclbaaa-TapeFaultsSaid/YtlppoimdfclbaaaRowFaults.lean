/- TapeFaults: any records, any faults as they are written and as they are read: the statement. No condition besides. -/
import Derived.Test.YtlppoimdfclbaaaFrame
import Derived.Test.YtlppoimdfclbaaaLawFaults
import Derived.Deep.SlicePairs
set_option linter.unusedVariables false
set_option linter.unusedSimpArgs false
namespace Go.Proofs.Ytlppoimdfclbaaa
open Go.ChangeShapes Go.WideShapes Go.ChangeAt Go.RowKit Go.Deep

set_option maxRecDepth 100000 in
/-- Faults that came in. -/
theorem open_faults {H : Type} {enc : TypeId × Value → H} {W : World} {base : Nat} {v : Value} {d : DataW H} {p : List MemPlace} (hv : Value.okWide Try.prog W .any base 50 v) (h : DataW.Trod enc Try.prog W 0 (fun _ => true) true 50 v d p)
    (hw : ∀ n ∈ d.weights Try.prog 50, n ≤ reachBytes) :
    ∃ (ad : Option Addr) (c : Nat) (fl : List (Int × Int)), v = .slice ad fl.length c ∧ FA id W ad fl ∧ fl.length ≤ 140737488351232 := by
  have b1 : Try.prog.bytesOf 92 = 16 := by kernel_rfl
  obtain ⟨a0, len, cap, rfl⟩ := okWide_slice Try.underlying50 hv
  obtain ⟨fuel, hf⟩ := h
  rcases open_slice_pairs Try.underlying50 Try.underlying92 (by kernel_rfl) rfl rfl (by kernel_rfl) (by kernel_rfl) hf with ⟨hcs, hx⟩ | ⟨a, len', cap', m, n, V0, V1, D0, D1, P0, P1, hcs, _, hl, hm, hmm, hx, hrows⟩
  · simp [Value.cells] at hcs
    obtain ⟨rfl, rfl, rfl⟩ := hcs
    exact ⟨none, 0, [], rfl, ⟨fun h => absurd rfl h, fun i hi => by simp at hi⟩, by simp⟩
  · simp [Value.cells] at hcs
    obtain ⟨rfl, rfl, rfl⟩ := hcs
    simp only [if_true] at hmm
    have hmm' := hmm.symm
    subst hmm'
    simp only [Prod.mk.injEq] at hx
    obtain ⟨rfl, -⟩ := hx
    obtain ⟨F, hF⟩ := choose_lt (α := Int × Int) (n := cap) (p := fun i y => V0 i = .int .i64 y.1 ∧ V1 i = .int .i64 y.2) (fun i hi => by
      obtain ⟨_, _, h3, h4⟩ := hrows i hi
      obtain ⟨x, e0, _, _⟩ := DataW.trod_int Try.underlying3 h3
      obtain ⟨y, e1, _, _⟩ := DataW.trod_int Try.underlying3 h4
      simp at e0 e1
      exact ⟨(x, y), e0, e1⟩)
    have hlen : ((List.range len).map F).length = len := by simp
    refine ⟨some a, cap, (List.range len).map F, by rw [hlen], ⟨fun hne k hk => ?_, fun i hi => ?_⟩, ?_⟩
    · have h0 : 0 < len := by rw [← hlen]; exact List.length_pos_iff.2 hne
      have := World.block_lt_of_cell? W _ (hrows 0 (by omega)).1
      rw [add_block] at this
      cases hk
      exact ⟨this, rfl⟩
    · rw [hlen] at hi
      obtain ⟨h1, h2, _, _⟩ := hrows i (by omega)
      obtain ⟨e0, e1⟩ := hF i (by omega)
      obtain ⟨b, o, spot⟩ := a
      have hspot : spot = none := by simpa [Addr.add] using World.cell?_spot (hrows 0 (by omega)).1
      subst hspot
      rw [addr_add] at h1 h2
      have e : ((List.range len).map F)[i] = F i := by simp
      rw [e]
      exact ⟨b, o, rfl, by rw [h1, e0], by rw [← Nat.add_assoc] at h2; rw [h2, e1]⟩
    · have := hw (((List.range len).map fun i => DataW.agg (H := H) [D0 i, D1 i]).length + ((List.range (cap - len)).map fun j => DataW.agg (H := H) [D0 (len + j), D1 (len + j)]).length |>.mul 16) (by
        simp only [DataW.weights, Try.underlying50, b1]
        exact List.mem_cons_self ..)
      simp only [List.length_map, List.length_range, reachBytes] at this
      rw [hlen]
      have e : (len + (cap - len)).mul 16 = (len + (cap - len)) * 16 := rfl
      rw [e] at this
      omega

set_option maxRecDepth 100000 in
theorem faults_lifted (os : Os) (started : os.Started) (H : Type) (enc : TypeId × Value → H) :
    ReturnsInHanded {} Try.checked os 4 .any (Rows.tapeFaultsSpec.pre6 enc Try.prog Try.f4 Rows.tapeFaultsRow.domain false) (Rows.tapeFaultsSpec.post enc Try.prog Try.f4 false true false false) := by
  refine returnsInHanded_of_change_sized (C := Try.checked) own_ started (by kernel_rfl) Try.func4
    (ChangeSpec.witness6 (enc := enc) (C := Try.checked) false ⟨#[], #[.slice none 0 0, .slice none 0 0, .slice none 0 0], []⟩ 8 (by kernel_rfl) (by kernel_rfl) (by kernel_rfl) (by kernel_rfl)) ?_
  intro W base args ds gs before hval0 hW _ hsz0 _
  have hsz : (DataW.weightsEach Try.prog (Try.f4.params.toList ++ Rows.tapeFaultsSpec.plain.varTypes Try.prog) (ds ++ gs)).all (· ≤ reachBytes) = true := hsz0
  have hval : ∀ (j : Nat) t v, Try.f4.params[j]? = some t → args[j]? = some v → Value.okWide Try.prog W .any base t v := hval0
  have hW' := hW
  obtain ⟨p, q, hA0, hV, rfl, hfz, hnd⟩ := hW
  have hA : DataW.TrodAll enc Try.prog W 0 (fun _ => true) true Try.f4.params.toList args.toList ds p := hA0
  rw [Try.params4] at hA hval hsz
  obtain ⟨v0, vs0, d0, ds0, p0, q0, hargs, rfl, rfl, h0, r0⟩ := trodAll_cons hA
  obtain ⟨v1, vs1, d1, ds1, p1, q1, rfl, rfl, rfl, h1, r1⟩ := trodAll_cons r0
  obtain ⟨v2, vs2, d2, ds2, p2, q2, rfl, rfl, rfl, h2, r2⟩ := trodAll_cons r1
  obtain ⟨rfl, rfl, rfl⟩ := trodAll_nil r2
  obtain rfl : args = #[v0, v1, v2] := by cases args; simp_all
  obtain ⟨rfl, rfl⟩ := trodVars_none hV
  have lt0 : ∀ x ∈ p0, x.block < W.heap.size := by obtain ⟨m, hm⟩ := h0; exact DataW.trod_lt m _ _ _ hm
  obtain ⟨ad, c, ls, rfl, hcap, hb, hn, hl⟩ := open_rows (hval 0 _ v0 rfl rfl) h0 (fun n hn => of_decide_eq_true (List.all_eq_true.1 hsz n (DataW.weights_mem_each (j := 0) rfl rfl n hn)))
  have lt1 : ∀ x ∈ p1, x.block < W.heap.size := by obtain ⟨m, hm⟩ := h1; exact DataW.trod_lt m _ _ _ hm
  have lt2 : ∀ x ∈ p2, x.block < W.heap.size := by obtain ⟨m, hm⟩ := h2; exact DataW.trod_lt m _ _ _ hm
  obtain ⟨wd, cw, fw, rfl, hfw, hnw⟩ := open_faults (hval 1 _ v1 rfl rfl) h1 (fun n hn => of_decide_eq_true (List.all_eq_true.1 hsz n (DataW.weights_mem_each (j := 1) rfl rfl n hn)))
  obtain ⟨rd, cr, fr, rfl, hfr, hnr⟩ := open_faults (hval 2 _ v2 rfl rfl) h2 (fun n hn => of_decide_eq_true (List.all_eq_true.1 hsz n (DataW.weights_mem_each (j := 2) rfl rfl n hn)))
  clear hA0 hval0 hsz0
  refine (law_tape_faults (g := id) c cw cr hcap (start_wf W) hb hfw hfr hn hl hnw hnr).mono fun e' W' ⟨he, g', hs⟩ => ?_
  subst he
  have bel := start_below hs
  exact ⟨_, rfl, _, _, _, [], _, [], hW', trodAll_mk1 (shut_bool Try.underlying4 _), (trodAll_cons_mk (Below.trod laid_ (by kernel_rfl) (of_decide_eq_true (by kernel_rfl)) h0 bel lt0) (trodAll_cons_mk (Below.trod laid_ (by kernel_rfl) (of_decide_eq_true (by kernel_rfl)) h1 bel lt1) (trodAll_cons_mk (Below.trod laid_ (by kernel_rfl) (of_decide_eq_true (by kernel_rfl)) h2 bel lt2) trodAll_mk0))), rfl, bel.frame _, fun h => by cases h⟩

theorem faults_over : Rows.tapeFaultsRow.holds Try.pinned (OpenSpec.ofChange Rows.tapeFaultsSpec) :=
  OpenClaim.holds_of_wide 4 Try.f4 rfl rfl rfl rfl rfl rfl rfl ⟨rfl, rfl, rfl, rfl, rfl⟩ rfl rfl rfl rfl rfl (by kernel_rfl) Try.func4 (by kernel_rfl)
    (of_decide_eq_true (by kernel_rfl)) (by unfold Func.isWrapper; first | (rw [if_pos (by decide +kernel)]; kernel_rfl) | (rw [if_neg (by decide +kernel)]; exact ⟨rfl, rfl⟩))
    (fun os started H enc _ => faults_lifted os started H enc)

theorem faults_holds : Rows.TapeFaultsSaid := faults_over
#print axioms faults_holds
end Go.Proofs.Ytlppoimdfclbaaa

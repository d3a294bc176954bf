/- The reference: own: texts, bytes. -/
import Derived.Test.YtbkmnhogfegmcaaDoorBsP9
set_option linter.unusedVariables false
set_option linter.unusedSimpArgs false
namespace Go.Proofs.YtbkmnhogfegmcaaDoor
open Go.RowKit

/-- A new row, written on. -/
structure NewI (W1 W : World) (v : Value) (L : Bs) : Prop where
  row : Row W v L
  own : ∀ k, v.ownBlock = some k → W1.heap.size ≤ k
  step : Step [] id id W1 W
section
variable {W1 W W' : World} {v v' : Value} {L L' : Bs}
theorem NewI.on (h : NewI W1 W v L) (hs : Step [] id id W W') : NewI W1 W' v L := ⟨ownsRow_step h.row hs (fun k _ => by simp), h.own, h.step.tail hs⟩
theorem NewI.grew (h : NewI W1 W v L) (hr : Row W' v' L') (hg : Grew W v W' v') : NewI W1 W' v' L' :=
  ⟨hr, fun k hk => by
    rcases hg.own k hk with e | e
    · exact h.own k e
    · exact Nat.le_trans h.step.size e, h.step.tailNew (.grown (T := v.ownBlock.toList) hg.grown (fun k hk => by simp [hk])) (fun r hr => .inr (h.own r (by simpa using hr)))⟩
theorem NewI.num {l : Bs} (h : Step [] id id W1 W) (hr : Row W' v l) (hs : Step [] id id W W') (hn : ∀ k, v.ownBlock = some k → W.heap.size ≤ k) : NewI W1 W' v l := ⟨hr, fun k hk => Nat.le_trans h.size (hn k hk), h.tail hs⟩
theorem OneB.with {Z : Nat} {c : UInt8} (h : OneB W v Z c) (hs : Step [] id id W W') (hn : ∀ k, v'.ownBlock = some k → W.heap.size ≤ k) : OneB W' v' Z c :=
  ⟨hs.at h.blk (by simp), fun e => by have := hn Z e; have := lt_of_block h.blk; omega⟩
end
theorem okV_text {d : Nat} {n : Int} {s b : Bs} {f : List (Bs × Val)} {l : List Val} : okV d (.mk 5 n s b f l) = (bareB (.mk 5 n s b f l) false true false false false && utf8 s) ∧ encV (.mk 5 n s b f l) = layI 4 (s.length + 1 : Nat) ++ (s ++ [0]) := by
  rw [okV, encV]; simp [Val.plain, bareB, codeOf]
theorem okV_bytes {d : Nat} {n : Int} {s b : Bs} {f : List (Bs × Val)} {l : List Val} : okV d (.mk 8 n s b f l) = bareB (.mk 8 n s b f l) false false true false false ∧ encV (.mk 8 n s b f l) = layI 4 b.length ++ (0 :: b) := by
  rw [okV, encV]; simp [Val.plain, bareB, codeOf]
set_option maxRecDepth 100000 in
set_option maxHeartbeats 8000000 in
theorem own_bytes {P : Nat → Prop} {w : World} {d : Nat} {k n : Int} {s b : Bs} {f : List (Bs × Val)} {l : List Val} {cs : List Value} (hk : k = 8) (hx : VIs P w (.mk k n s b f l) cs) (hw : b.length ≤ 3000) :
    Calls Tryd.prog 35 #[.agg cs.toArray, .int .i64 ((d : Int) + 1)] w (OwnP P (.mk k n s b f l) d w) := by
  obtain ⟨bv, fa, fc, la, lc, hcs, hb, ⟨hfc, hlc, hfz, hlz⟩, ⟨hk1, hk2, hn1, hn2⟩, -, hf, hl⟩ := hx.cells
  obtain ⟨ba, bc, rfl⟩ := hb.shape
  simp only [Val.kind, Val.num, Val.s, Val.b, Val.f, Val.l] at *
  obtain ⟨S0, hS0⟩ : ∃ k, k = strOf s := ⟨_, rfl⟩
  obtain ⟨bn, hbn⟩ : ∃ k, k = b.length := ⟨_, rfl⟩
  obtain ⟨ln, hln⟩ : ∃ k, k = l.length := ⟨_, rfl⟩
  obtain ⟨fn, hfn⟩ : ∃ k, k = f.length := ⟨_, rfl⟩
  rw [← hS0, ← hbn, ← hln, ← hfn] at hcs
  rw [← hbn] at hb
  subst hcs
  obtain ⟨W1, hW1⟩ : ∃ W1, W1 = w.alloc (.cells #[.int .i64 k, .int .i64 n, .string S0, .slice ba bn bc, .slice fa fn fc, .slice la ln lc] 27) := ⟨_, rfl⟩
  have hst1 : Step [] id id w W1 := by rw [hW1]; exact Step.alloc _
  have hV : W1.heap[w.heap.size]? = some (.cells #[.int .i64 k, .int .i64 n, .string S0, .slice ba bn bc, .slice fa fn fc, .slice la ln lc] 27 (0, 0)) := by rw [hW1]; exact heap_alloc_new _ _
  have hx1 := hx.keep (P2 := P) (w' := W1) (fun _ h => h) (fun k hP hk => (hst1.keep k hk (by simp)).2)
  obtain ⟨v0, v1, v2, v3, v4, v5⟩ := cells_of6P hV
  have hVl : w.heap.size < W1.heap.size := lt_of_block hV
  have hVH := Lib.hid hV
  have hx1H := Lib.hid hx1
  have hW1H := Lib.hid hW1
  have hst1H := Lib.hid hst1
  have hS0H := Lib.hid hS0
  have hbnH := Lib.hid hbn
  have hlnH := Lib.hid hln
  have hfnH := Lib.hid hfn
  have hbH := Lib.hid hb
  have hfH := Lib.hid hf
  have hlH := Lib.hid hl
  clear hx hb hf hl hS0 hbn hln hfn hst1 hV hx1 hW1 hfc hlc hfz hlz hk1 hk2
  subst hk
  obtain ⟨he, hen⟩ := okV_bytes (d := d) (n := n) (s := s) (b := b) (f := f) (l := l)
  have hbc := Lib.hid (fun (W : World) (hW : Step [] id id W1 W) => ref_bare_b (hx1H.out.keep (P2 := P) (w' := W) (fun _ h => h) (fun k hP hk => (hW.keep k hk (by simp)).2)))
  have hbW := fun (W : World) (hW : Step [] id id W1 W) => hbH.out.keep (P2 := P) (w' := W) (fun _ h => h) (fun k hP hk => ((hst1H.out.tail hW).keep k hk (by simp)).2)
  have heH := Lib.hid he
  have henH := Lib.hid hen
  have hbn3 : bn ≤ 3000 := by rw [hbnH.out]; exact hw
  have hbni : ¬ (65536 : Int) < (bn : Int) := by omega
  obtain ⟨M, hM⟩ : ∃ M : Int, M = (bn : Int) := ⟨_, rfl⟩
  have hMr : 0 ≤ M ∧ M ≤ 3000 := by omega
  have hMH := Lib.hid (show M = ((b.length : Nat) : Int) by rw [hM, hbnH.out])
  go_enter Tryd.func35, Tryd.ntmps35
  clear he hen
  have hMH2 := Lib.hid hM
  clear hM
  go_wp2_with fail
  rw [← hW1H.out]
  refine wp_region_held_drew (S := fun w' => w'.cell? ⟨w.heap.size, 0, none⟩ = some (.int .i64 8) ∧ w'.cell? ⟨w.heap.size, 1, none⟩ = some (.int .i64 n) ∧ w'.cell? ⟨w.heap.size, 2, none⟩ = some (.string S0) ∧ w'.cell? ⟨w.heap.size, 3, none⟩ = some (.slice ba bn bc) ∧ w'.cell? ⟨w.heap.size, 4, none⟩ = some (.slice fa fn fc) ∧ w'.cell? ⟨w.heap.size, 5, none⟩ = some (.slice la ln lc)) (by kernel_rfl) ⟨v0, v1, v2, v3, v4, v5⟩ (fun hHeld => ?_)
  have hW : Step [] id id W1 W1.drew := Step.drew
  refine wpAnyH_take (i := 0) (v := ?_) rfl (by kernel_rfl) (by kernel_rfl) (by kernel_rfl) (fun _ _ _ h => h) (Or.inl ⟨by kernel_rfl, ?_⟩) hHeld ?_
  rotate_left
  · intro w' hSw; (try dsimp only at hSw); go_simp
    all_goals (with_reducible rfl)
  simp only [Act.put, List.getElem_toArray, List.getElem_cons_zero, List.getElem_cons_succ, List.setIfInBounds_toArray, List.set_cons_zero, List.set_cons_succ]
  refine wpAnyH_take (i := 1) (v := ?_) rfl (by kernel_rfl) (by kernel_rfl) (by kernel_rfl) (fun _ _ _ h => h) (Or.inl ⟨by kernel_rfl, ?_⟩) hHeld ?_
  rotate_left
  · intro w' hSw; (try dsimp only at hSw); go_simp
    all_goals (with_reducible rfl)
  simp only [Act.put, List.getElem_toArray, List.getElem_cons_zero, List.getElem_cons_succ, List.setIfInBounds_toArray, List.set_cons_zero, List.set_cons_succ]
  refine wpAnyH_take (i := 2) (v := ?_) rfl (by kernel_rfl) (by kernel_rfl) (by kernel_rfl) (fun _ _ _ h => h) (Or.inl ⟨by kernel_rfl, ?_⟩) hHeld ?_
  rotate_left
  · intro w' hSw; (try dsimp only at hSw); go_simp
    all_goals (with_reducible rfl)
  simp only [Act.put, List.getElem_toArray, List.getElem_cons_zero, List.getElem_cons_succ, List.setIfInBounds_toArray, List.set_cons_zero, List.set_cons_succ]
  refine wpAnyH_take (i := 6) (v := ?_) rfl (by kernel_rfl) (by kernel_rfl) (by kernel_rfl) (fun _ _ _ h => h) (Or.inl ⟨by kernel_rfl, ?_⟩) hHeld ?_
  rotate_left
  · intro w' hSw; (try dsimp only at hSw); go_simp
    all_goals (with_reducible rfl)
  simp only [Act.put, List.getElem_toArray, List.getElem_cons_zero, List.getElem_cons_succ, List.setIfInBounds_toArray, List.set_cons_zero, List.set_cons_succ]
  refine wpAnyH_take (i := 7) (v := ?_) rfl (by kernel_rfl) (by kernel_rfl) (by kernel_rfl) (fun _ _ _ h => h) (Or.inl ⟨by kernel_rfl, ?_⟩) hHeld ?_
  rotate_left
  · intro w' hSw; (try dsimp only at hSw); go_simp
    all_goals (with_reducible rfl)
  simp only [Act.put, List.getElem_toArray, List.getElem_cons_zero, List.getElem_cons_succ, List.setIfInBounds_toArray, List.set_cons_zero, List.set_cons_succ]
  refine wpAnyH_take (i := 9) (v := ?_) rfl (by kernel_rfl) (by kernel_rfl) (by kernel_rfl) (fun _ _ _ h => h) (Or.inl ⟨by kernel_rfl, ?_⟩) hHeld ?_
  rotate_left
  · intro w' hSw; (try dsimp only at hSw); go_simp
    all_goals (with_reducible rfl)
  simp only [Act.put, List.getElem_toArray, List.getElem_cons_zero, List.getElem_cons_succ, List.setIfInBounds_toArray, List.set_cons_zero, List.set_cons_succ]
  rw [← hMH2.out]
  refine wpAnyH_ready (rs := [3, 4]) (by kernel_rfl) (by simp) ?_
  refine AllReadyH.cons (o := _) rfl (fun K hK => ?_) (AllReadyH.cons (o := _) rfl (fun K hK => ?_) AllReadyH.nil)
  · go_simp
    refine (ref_num M 4 _ (by omega) ⟨by omega, by omega⟩).mono ?_
    rintro e w2 ⟨nv, rfl, hr2, hs2, hnew2⟩
    obtain ⟨na, nn, nc, rfl, hnn⟩ := hr2.shapeN
    have hI := NewI.num hW hr2 hs2 hnew2
    clear hnn
    go_wp2_with fail
    refine hK.out _ _ ?_ (fun hHeld => ?_)
    · exact cells_of6P (hI.step.at hVH.out (by simp))
    clear hK K
    refine wpAnyH_ready (rs := [4]) (by kernel_rfl) (by simp) ?_
    refine AllReadyH.cons (o := _) rfl (fun K hK => ?_) AllReadyH.nil
    go_simp
    have hZ := OneB.new (z := 0) (c := 0) hI.row rfl
    have hI := hI.on (Step.alloc (.cells #[.int .u8 0] 5))
    refine hK.out _ _ ?_ (fun hHeld => ?_)
    · exact cells_of6P (hI.step.at hVH.out (by simp))
    clear hK K
    refine wpAnyH_ready (rs := [5]) (by kernel_rfl) (by simp) ?_
    refine AllReadyH.cons (o := _) rfl (fun K hK => ?_) AllReadyH.nil
    refine wp_put_src (.tmp 90) (.tmp 91) (by rfl) (by rfl) hI.row [0] (by first | rfl | (rw [alloc_size]; rfl)) hZ.src (by simp only [List.length_append, List.length_cons, List.length_nil, layI_length]; omega) ?_
    intro ad5 N5 c5 W5 hr5 hg5
    have hI := hI.grew hr5 hg5
    refine hK.out _ _ ?_ (fun hHeld => ?_)
    · exact cells_of6P (hI.step.at hVH.out (by simp))
    clear hK K
    refine wpAnyH_ready (rs := [8]) (by kernel_rfl) (by simp) ?_
    refine AllReadyH.cons (o := _) rfl (fun K hK => ?_) AllReadyH.nil
    refine wp_put_src (.tmp 92) (.tmp 94) (by rfl) (by rfl) hI.row b (by rfl) (bin_src (P := P) (hbW _ hI.step)) (by simp only [List.length_append, List.length_cons, List.length_nil, layI_length]; omega) ?_
    intro ad8 N8 c8 W8 hr8 hg8
    have hI := hI.grew hr8 hg8
    refine hK.out _ _ ?_ (fun hHeld => ?_)
    · exact cells_of6P (hI.step.at hVH.out (by simp))
    clear hK K
    refine wpAnyH_ready (rs := [10]) (by kernel_rfl) (by simp) ?_
    refine AllReadyH.cons (o := _) rfl (fun K hK => ?_) AllReadyH.nil
    go_simp
    refine (hbc.out _ hI.step).mono ?_
    rintro e w9 ⟨rfl, hs9⟩
    have hI := hI.on hs9
    go_wp2_with fail
    refine hK.out _ _ ?_ (fun hHeld => ?_)
    · exact cells_of6P (hI.step.at hVH.out (by simp))
    clear hK K
    refine wpAnyH_take (i := 11) (v := ?_) rfl (by kernel_rfl) (by kernel_rfl) (by kernel_rfl) (fun _ _ _ h => h) (Or.inl ⟨by kernel_rfl, ?_⟩) hHeld ?_
    rotate_left
    · intro w' hSw; (try dsimp only at hSw); go_simp
      all_goals (with_reducible rfl)
    simp only [Act.put, List.getElem_toArray, List.getElem_cons_zero, List.getElem_cons_succ, List.setIfInBounds_toArray, List.set_cons_zero, List.set_cons_succ]
    refine wpAnyH_take (i := 12) (v := ?_) rfl (by kernel_rfl) (by kernel_rfl) (by kernel_rfl) (fun _ _ _ h => h) (Or.inl ⟨by kernel_rfl, ?_⟩) hHeld ?_
    rotate_left
    · intro w' hSw; (try dsimp only at hSw); go_simp
      all_goals (with_reducible rfl)
    simp only [Act.put, List.getElem_toArray, List.getElem_cons_zero, List.getElem_cons_succ, List.setIfInBounds_toArray, List.set_cons_zero, List.set_cons_succ]
    refine wpAnyH_done (by kernel_rfl) ?_ _
    have hIH := Lib.hid hI
    clear hI v0 v1 v2 v3 v4 v5 hHeld
    go_wp2_with fail
    go_ret2
    refine ⟨ad8, N8, c8, by rw [heH.out]; rfl, fun _ => ?_, hst1H.out.tail hIH.out.step⟩
    have e : encV (.mk 8 n s b f l) = layI 4 M ++ [0] ++ b := by rw [henH.out, hMH.out]; simp
    rw [e]
    exact ⟨hIH.out.row.len, row_bin hIH.out.row (fun k hk => .inr (by have := hIH.out.own k hk; omega))⟩
  · go_simp
    have hZ := OneB.new (W := W1.drew) (z := 0) (c := 0) (Row.nil _) rfl
    have hW := hW.tail (Step.alloc (.cells #[.int .u8 0] 5))
    refine hK.out _ _ ?_ (fun hHeld => ?_)
    · exact cells_of6P (hW.at hVH.out (by simp))
    clear hK K
    refine wpAnyH_ready (rs := [3]) (by kernel_rfl) (by simp) ?_
    refine AllReadyH.cons (o := _) rfl (fun K hK => ?_) AllReadyH.nil
    go_simp
    refine (ref_num M 4 _ (by omega) ⟨by omega, by omega⟩).mono ?_
    rintro e w2 ⟨nv, rfl, hr2, hs2, hnew2⟩
    obtain ⟨na, nn, nc, rfl, hnn⟩ := hr2.shapeN
    have hI := NewI.num hW hr2 hs2 hnew2
    clear hnn
    go_wp2_with fail
    refine hK.out _ _ ?_ (fun hHeld => ?_)
    · exact cells_of6P (hI.step.at hVH.out (by simp))
    clear hK K
    have hZ := hZ.with hs2 hnew2
    refine wpAnyH_ready (rs := [5]) (by kernel_rfl) (by simp) ?_
    refine AllReadyH.cons (o := _) rfl (fun K hK => ?_) AllReadyH.nil
    refine wp_put_src (.tmp 90) (.tmp 91) (by rfl) (by rfl) hI.row [0] (by first | rfl | (rw [alloc_size]; rfl)) hZ.src (by simp only [List.length_append, List.length_cons, List.length_nil, layI_length]; omega) ?_
    intro ad5 N5 c5 W5 hr5 hg5
    have hI := hI.grew hr5 hg5
    refine hK.out _ _ ?_ (fun hHeld => ?_)
    · exact cells_of6P (hI.step.at hVH.out (by simp))
    clear hK K
    refine wpAnyH_ready (rs := [8]) (by kernel_rfl) (by simp) ?_
    refine AllReadyH.cons (o := _) rfl (fun K hK => ?_) AllReadyH.nil
    refine wp_put_src (.tmp 92) (.tmp 94) (by rfl) (by rfl) hI.row b (by rfl) (bin_src (P := P) (hbW _ hI.step)) (by simp only [List.length_append, List.length_cons, List.length_nil, layI_length]; omega) ?_
    intro ad8 N8 c8 W8 hr8 hg8
    have hI := hI.grew hr8 hg8
    refine hK.out _ _ ?_ (fun hHeld => ?_)
    · exact cells_of6P (hI.step.at hVH.out (by simp))
    clear hK K
    refine wpAnyH_ready (rs := [10]) (by kernel_rfl) (by simp) ?_
    refine AllReadyH.cons (o := _) rfl (fun K hK => ?_) AllReadyH.nil
    go_simp
    refine (hbc.out _ hI.step).mono ?_
    rintro e w9 ⟨rfl, hs9⟩
    have hI := hI.on hs9
    go_wp2_with fail
    refine hK.out _ _ ?_ (fun hHeld => ?_)
    · exact cells_of6P (hI.step.at hVH.out (by simp))
    clear hK K
    refine wpAnyH_take (i := 11) (v := ?_) rfl (by kernel_rfl) (by kernel_rfl) (by kernel_rfl) (fun _ _ _ h => h) (Or.inl ⟨by kernel_rfl, ?_⟩) hHeld ?_
    rotate_left
    · intro w' hSw; (try dsimp only at hSw); go_simp
      all_goals (with_reducible rfl)
    simp only [Act.put, List.getElem_toArray, List.getElem_cons_zero, List.getElem_cons_succ, List.setIfInBounds_toArray, List.set_cons_zero, List.set_cons_succ]
    refine wpAnyH_take (i := 12) (v := ?_) rfl (by kernel_rfl) (by kernel_rfl) (by kernel_rfl) (fun _ _ _ h => h) (Or.inl ⟨by kernel_rfl, ?_⟩) hHeld ?_
    rotate_left
    · intro w' hSw; (try dsimp only at hSw); go_simp
      all_goals (with_reducible rfl)
    simp only [Act.put, List.getElem_toArray, List.getElem_cons_zero, List.getElem_cons_succ, List.setIfInBounds_toArray, List.set_cons_zero, List.set_cons_succ]
    refine wpAnyH_done (by kernel_rfl) ?_ _
    have hIH := Lib.hid hI
    clear hI v0 v1 v2 v3 v4 v5 hHeld
    go_wp2_with fail
    go_ret2
    refine ⟨ad8, N8, c8, by rw [heH.out]; rfl, fun _ => ?_, hst1H.out.tail hIH.out.step⟩
    have e : encV (.mk 8 n s b f l) = layI 4 M ++ [0] ++ b := by rw [henH.out, hMH.out]; simp
    rw [e]
    exact ⟨hIH.out.row.len, row_bin hIH.out.row (fun k hk => .inr (by have := hIH.out.own k hk; omega))⟩
set_option maxRecDepth 100000 in
set_option maxHeartbeats 8000000 in
theorem own_text {P : Nat → Prop} {w : World} {d : Nat} {k n : Int} {s b : Bs} {f : List (Bs × Val)} {l : List Val} {cs : List Value} (hk : k = 5) (hx : VIs P w (.mk k n s b f l) cs) (hw : s.length ≤ 3000) :
    Calls Tryd.prog 35 #[.agg cs.toArray, .int .i64 ((d : Int) + 1)] w (OwnP P (.mk k n s b f l) d w) := by
  obtain ⟨bv, fa, fc, la, lc, hcs, hb, ⟨hfc, hlc, hfz, hlz⟩, ⟨hk1, hk2, hn1, hn2⟩, -, hf, hl⟩ := hx.cells
  obtain ⟨ba, bc, rfl⟩ := hb.shape
  simp only [Val.kind, Val.num, Val.s, Val.b, Val.f, Val.l] at *
  obtain ⟨S0, hS0⟩ : ∃ k, k = strOf s := ⟨_, rfl⟩
  obtain ⟨bn, hbn⟩ : ∃ k, k = b.length := ⟨_, rfl⟩
  obtain ⟨ln, hln⟩ : ∃ k, k = l.length := ⟨_, rfl⟩
  obtain ⟨fn, hfn⟩ : ∃ k, k = f.length := ⟨_, rfl⟩
  rw [← hS0, ← hbn, ← hln, ← hfn] at hcs
  rw [← hbn] at hb
  subst hcs
  obtain ⟨W1, hW1⟩ : ∃ W1, W1 = w.alloc (.cells #[.int .i64 k, .int .i64 n, .string S0, .slice ba bn bc, .slice fa fn fc, .slice la ln lc] 27) := ⟨_, rfl⟩
  have hst1 : Step [] id id w W1 := by rw [hW1]; exact Step.alloc _
  have hV : W1.heap[w.heap.size]? = some (.cells #[.int .i64 k, .int .i64 n, .string S0, .slice ba bn bc, .slice fa fn fc, .slice la ln lc] 27 (0, 0)) := by rw [hW1]; exact heap_alloc_new _ _
  have hx1 := hx.keep (P2 := P) (w' := W1) (fun _ h => h) (fun k hP hk => (hst1.keep k hk (by simp)).2)
  obtain ⟨v0, v1, v2, v3, v4, v5⟩ := cells_of6P hV
  have hVl : w.heap.size < W1.heap.size := lt_of_block hV
  have hVH := Lib.hid hV
  have hx1H := Lib.hid hx1
  have hW1H := Lib.hid hW1
  have hst1H := Lib.hid hst1
  have hS0H := Lib.hid hS0
  have hbnH := Lib.hid hbn
  have hlnH := Lib.hid hln
  have hfnH := Lib.hid hfn
  have hbH := Lib.hid hb
  have hfH := Lib.hid hf
  have hlH := Lib.hid hl
  clear hx hb hf hl hS0 hbn hln hfn hst1 hV hx1 hW1 hfc hlc hfz hlz hk1 hk2
  subst hk
  obtain ⟨he, hen⟩ := okV_text (d := d) (n := n) (s := s) (b := b) (f := f) (l := l)
  have hbc := Lib.hid (fun (W : World) (hW : Step [] id id W1 W) => ref_bare_s (hx1H.out.keep (P2 := P) (w' := W) (fun _ h => h) (fun k hP hk => (hW.keep k hk (by simp)).2)))
  have hut := fun W : World => ref_utf8 s W (by omega)
  rw [← hS0H.out] at hut
  have heH := Lib.hid he
  have henH := Lib.hid hen
  have hsz : S0.size = s.length := by rw [hS0H.out, strOf_size]
  have hs3 : S0.size ≤ 3000 := by omega
  have hs3i : ¬ (65536 : Int) < (S0.size : Int) := by omega
  have hs3n : ¬ 65536 < S0.size := by omega
  have hwr : IntKind.i64.wrap ((S0.size : Int) + 1) = (S0.size : Int) + 1 := IntWalk.i64_in _ (by omega)
  obtain ⟨M, hM⟩ : ∃ M : Int, M = (S0.size : Int) + 1 := ⟨_, rfl⟩
  have hMr : 0 ≤ M ∧ M ≤ 3001 := by omega
  have hMH := Lib.hid (show M = ((s.length + 1 : Nat) : Int) by rw [hM, hsz]; rfl)
  have hMH2 := Lib.hid hM
  obtain ⟨r, hr⟩ : ∃ r, r = bareB (.mk 5 n s b f l) false true false false false := ⟨_, rfl⟩
  have hrH := Lib.hid hr
  obtain ⟨u, hu⟩ : ∃ u, u = utf8 s := ⟨_, rfl⟩
  rw [← hu] at hut
  have huH := Lib.hid hu
  clear hM hr he hen hsz hu
  cases r
  · have hokH := Lib.hid (show okV d (.mk 5 n s b f l) = false by rw [heH.out, ← hrH.out]; rfl)
    go_enter Tryd.func35, Tryd.ntmps35
    go_wp2_with fail
    rw [← hW1H.out]
    refine wp_region_held_drew (S := fun w' => w'.cell? ⟨w.heap.size, 0, none⟩ = some (.int .i64 5) ∧ w'.cell? ⟨w.heap.size, 1, none⟩ = some (.int .i64 n) ∧ w'.cell? ⟨w.heap.size, 2, none⟩ = some (.string S0) ∧ w'.cell? ⟨w.heap.size, 3, none⟩ = some (.slice ba bn bc) ∧ w'.cell? ⟨w.heap.size, 4, none⟩ = some (.slice fa fn fc) ∧ w'.cell? ⟨w.heap.size, 5, none⟩ = some (.slice la ln lc)) (by kernel_rfl) ⟨v0, v1, v2, v3, v4, v5⟩ (fun hHeld => ?_)
    have hW : Step [] id id W1 W1.drew := Step.drew
    refine wpAnyH_take (i := 0) (v := ?_) rfl (by kernel_rfl) (by kernel_rfl) (by kernel_rfl) (fun _ _ _ h => h) (Or.inl ⟨by kernel_rfl, ?_⟩) hHeld ?_
    rotate_left
    · intro w' hSw; (try dsimp only at hSw); go_simp
      all_goals (with_reducible rfl)
    simp only [Act.put, List.getElem_toArray, List.getElem_cons_zero, List.getElem_cons_succ, List.setIfInBounds_toArray, List.set_cons_zero, List.set_cons_succ]
    refine wpAnyH_take (i := 1) (v := ?_) rfl (by kernel_rfl) (by kernel_rfl) (by kernel_rfl) (fun _ _ _ h => h) (Or.inl ⟨by kernel_rfl, ?_⟩) hHeld ?_
    rotate_left
    · intro w' hSw; (try dsimp only at hSw); go_simp
      all_goals (with_reducible rfl)
    simp only [Act.put, List.getElem_toArray, List.getElem_cons_zero, List.getElem_cons_succ, List.setIfInBounds_toArray, List.set_cons_zero, List.set_cons_succ]
    refine wpAnyH_take (i := 2) (v := ?_) rfl (by kernel_rfl) (by kernel_rfl) (by kernel_rfl) (fun _ _ _ h => h) (Or.inl ⟨by kernel_rfl, ?_⟩) hHeld ?_
    rotate_left
    · intro w' hSw; (try dsimp only at hSw); go_simp
      all_goals (with_reducible rfl)
    simp only [Act.put, List.getElem_toArray, List.getElem_cons_zero, List.getElem_cons_succ, List.setIfInBounds_toArray, List.set_cons_zero, List.set_cons_succ]
    refine wpAnyH_take (i := 3) (v := ?_) rfl (by kernel_rfl) (by kernel_rfl) (by kernel_rfl) (fun _ _ _ h => h) (Or.inl ⟨by kernel_rfl, ?_⟩) hHeld ?_
    rotate_left
    · intro w' hSw; (try dsimp only at hSw); go_simp
      all_goals (with_reducible rfl)
    simp only [Act.put, List.getElem_toArray, List.getElem_cons_zero, List.getElem_cons_succ, List.setIfInBounds_toArray, List.set_cons_zero, List.set_cons_succ]
    refine wpAnyH_take (i := 5) (v := ?_) rfl (by kernel_rfl) (by kernel_rfl) (by kernel_rfl) (fun _ _ _ h => h) (Or.inl ⟨by kernel_rfl, ?_⟩) hHeld ?_
    rotate_left
    · intro w' hSw; (try dsimp only at hSw); go_simp
      all_goals (with_reducible rfl)
    simp only [Act.put, List.getElem_toArray, List.getElem_cons_zero, List.getElem_cons_succ, List.setIfInBounds_toArray, List.set_cons_zero, List.set_cons_succ]
    refine wpAnyH_take (i := 6) (v := ?_) rfl (by kernel_rfl) (by kernel_rfl) (by kernel_rfl) (fun _ _ _ h => h) (Or.inl ⟨by kernel_rfl, ?_⟩) hHeld ?_
    rotate_left
    · intro w' hSw; (try dsimp only at hSw); go_simp
      all_goals (with_reducible rfl)
    simp only [Act.put, List.getElem_toArray, List.getElem_cons_zero, List.getElem_cons_succ, List.setIfInBounds_toArray, List.set_cons_zero, List.set_cons_succ]
    refine wpAnyH_take (i := 10) (v := ?_) rfl (by kernel_rfl) (by kernel_rfl) (by kernel_rfl) (fun _ _ _ h => h) (Or.inl ⟨by kernel_rfl, ?_⟩) hHeld ?_
    rotate_left
    · intro w' hSw; (try dsimp only at hSw); go_simp
      all_goals (with_reducible rfl)
    simp only [Act.put, List.getElem_toArray, List.getElem_cons_zero, List.getElem_cons_succ, List.setIfInBounds_toArray, List.set_cons_zero, List.set_cons_succ]
    rw [← hMH2.out]
    refine wpAnyH_ready (rs := [4, 8]) (by kernel_rfl) (by simp) ?_
    refine AllReadyH.cons (o := _) rfl (fun K hK => ?_) (AllReadyH.cons (o := _) rfl (fun K hK => ?_) AllReadyH.nil)
    · go_simp
      refine (ref_num M 4 _ (by omega) ⟨by omega, by omega⟩).mono ?_
      rintro e w2 ⟨nv, rfl, hr2, hs2, hnew2⟩
      obtain ⟨na, nn, nc, rfl, hnn⟩ := hr2.shapeN
      have hI := NewI.num hW hr2 hs2 hnew2
      clear hnn
      go_wp2_with fail
      refine hK.out _ _ ?_ (fun hHeld => ?_)
      · exact cells_of6P (hI.step.at hVH.out (by simp))
      clear hK K
      refine wpAnyH_ready (rs := [7, 8]) (by kernel_rfl) (by simp) ?_
      refine AllReadyH.cons (o := _) rfl (fun K hK => ?_) (AllReadyH.cons (o := _) rfl (fun K hK => ?_) AllReadyH.nil)
      · refine wp_put_str (.tmp 68) (.tmp 70) (by rfl) (by rfl) hI.row s (by rw [← hS0H.out]; rfl) (by simp only [List.length_append, List.length_cons, List.length_nil, layI_length]; omega) ?_
        intro ad7 N7 c7 W7 hr7 hg7
        have hI := hI.grew hr7 hg7
        refine hK.out _ _ ?_ (fun hHeld => ?_)
        · exact cells_of6P (hI.step.at hVH.out (by simp))
        clear hK K
        refine wpAnyH_ready (rs := [8]) (by kernel_rfl) (by simp) ?_
        refine AllReadyH.cons (o := _) rfl (fun K hK => ?_) AllReadyH.nil
        go_simp
        have hZ := OneB.new (z := 0) (c := 0) hI.row rfl
        have hI := hI.on (Step.alloc (.cells #[.int .u8 0] 5))
        refine hK.out _ _ ?_ (fun hHeld => ?_)
        · exact cells_of6P (hI.step.at hVH.out (by simp))
        clear hK K
        refine wpAnyH_ready (rs := [9]) (by kernel_rfl) (by simp) ?_
        refine AllReadyH.cons (o := _) rfl (fun K hK => ?_) AllReadyH.nil
        refine wp_put_src (.tmp 71) (.tmp 72) (by rfl) (by rfl) hI.row [0] (by first | rfl | (rw [alloc_size]; rfl)) hZ.src (by simp only [List.length_append, List.length_cons, List.length_nil, layI_length]; omega) ?_
        intro ad9 N9 c9 W9 hr9 hg9
        have hI := hI.grew hr9 hg9
        refine hK.out _ _ ?_ (fun hHeld => ?_)
        · exact cells_of6P (hI.step.at hVH.out (by simp))
        clear hK K
        refine wpAnyH_ready (rs := [11]) (by kernel_rfl) (by simp) ?_
        refine AllReadyH.cons (o := _) rfl (fun K hK => ?_) AllReadyH.nil
        go_simp
        refine (hbc.out _ hI.step).mono ?_
        rintro e w11 ⟨rfl, hs11⟩
        rw [← hrH.out]
        have hI := hI.on hs11
        go_wp2_with fail
        refine hK.out _ _ ?_ (fun hHeld => ?_)
        · exact cells_of6P (hI.step.at hVH.out (by simp))
        clear hK K
        refine wpAnyH_take (i := 12) (v := ?_) rfl (by kernel_rfl) (by kernel_rfl) (by kernel_rfl) (fun _ _ _ h => h) (Or.inl ⟨by kernel_rfl, ?_⟩) hHeld ?_
        rotate_left
        · intro w' hSw; (try dsimp only at hSw); go_simp
          all_goals (with_reducible rfl)
        simp only [Act.put, List.getElem_toArray, List.getElem_cons_zero, List.getElem_cons_succ, List.setIfInBounds_toArray, List.set_cons_zero, List.set_cons_succ]
        refine wpAnyH_take (i := 13) (v := undef) rfl (by kernel_rfl) (by kernel_rfl) (by kernel_rfl) (fun _ _ _ h => h) (Or.inr ⟨by kernel_rfl, rfl⟩) hHeld ?_
        simp only [Act.put, List.getElem_toArray, List.getElem_cons_zero, List.getElem_cons_succ, List.setIfInBounds_toArray, List.set_cons_zero, List.set_cons_succ]
        refine wpAnyH_take (i := 14) (v := undef) rfl (by kernel_rfl) (by kernel_rfl) (by kernel_rfl) (fun _ _ _ h => h) (Or.inr ⟨by kernel_rfl, rfl⟩) hHeld ?_
        simp only [Act.put, List.getElem_toArray, List.getElem_cons_zero, List.getElem_cons_succ, List.setIfInBounds_toArray, List.set_cons_zero, List.set_cons_succ]
        refine wpAnyH_take (i := 15) (v := undef) rfl (by kernel_rfl) (by kernel_rfl) (by kernel_rfl) (fun _ _ _ h => h) (Or.inr ⟨by kernel_rfl, rfl⟩) hHeld ?_
        simp only [Act.put, List.getElem_toArray, List.getElem_cons_zero, List.getElem_cons_succ, List.setIfInBounds_toArray, List.set_cons_zero, List.set_cons_succ]
        refine wpAnyH_take (i := 16) (v := ?_) rfl (by kernel_rfl) (by kernel_rfl) (by kernel_rfl) (fun _ _ _ h => h) (Or.inl ⟨by kernel_rfl, ?_⟩) hHeld ?_
        rotate_left
        · intro w' hSw; (try dsimp only at hSw); go_simp
          all_goals (with_reducible rfl)
        simp only [Act.put, List.getElem_toArray, List.getElem_cons_zero, List.getElem_cons_succ, List.setIfInBounds_toArray, List.set_cons_zero, List.set_cons_succ]
        refine wpAnyH_take (i := 17) (v := ?_) rfl (by kernel_rfl) (by kernel_rfl) (by kernel_rfl) (fun _ _ _ h => h) (Or.inl ⟨by kernel_rfl, ?_⟩) hHeld ?_
        rotate_left
        · intro w' hSw; (try dsimp only at hSw); go_simp
          all_goals (with_reducible rfl)
        simp only [Act.put, List.getElem_toArray, List.getElem_cons_zero, List.getElem_cons_succ, List.setIfInBounds_toArray, List.set_cons_zero, List.set_cons_succ]
        refine wpAnyH_take (i := 18) (v := ?_) rfl (by kernel_rfl) (by kernel_rfl) (by kernel_rfl) (fun _ _ _ h => h) (Or.inl ⟨by kernel_rfl, ?_⟩) hHeld ?_
        rotate_left
        · intro w' hSw; (try dsimp only at hSw); go_simp
          all_goals (with_reducible rfl)
        simp only [Act.put, List.getElem_toArray, List.getElem_cons_zero, List.getElem_cons_succ, List.setIfInBounds_toArray, List.set_cons_zero, List.set_cons_succ]
        refine wpAnyH_done (by kernel_rfl) ?_ _
        have hIH := Lib.hid hI
        clear hI v0 v1 v2 v3 v4 v5 hHeld
        go_wp2_with fail
        go_ret2
        refine ⟨ad9, N9, c9, by rw [hokH.out]; rfl, fun _ => ?_, hst1H.out.tail hIH.out.step⟩
        have e : encV (.mk 5 n s b f l) = layI 4 M ++ s ++ [0] := by rw [henH.out, hMH.out]; simp
        rw [e]
        exact ⟨hIH.out.row.len, row_bin hIH.out.row (fun k hk => .inr (by have := hIH.out.own k hk; omega))⟩
      · go_simp
        have hZ := OneB.new (z := 0) (c := 0) hI.row rfl
        have hI := hI.on (Step.alloc (.cells #[.int .u8 0] 5))
        refine hK.out _ _ ?_ (fun hHeld => ?_)
        · exact cells_of6P (hI.step.at hVH.out (by simp))
        clear hK K
        refine wpAnyH_ready (rs := [7]) (by kernel_rfl) (by simp) ?_
        refine AllReadyH.cons (o := _) rfl (fun K hK => ?_) AllReadyH.nil
        refine wp_put_str (.tmp 68) (.tmp 70) (by rfl) (by rfl) hI.row s (by rw [← hS0H.out]; rfl) (by simp only [List.length_append, List.length_cons, List.length_nil, layI_length]; omega) ?_
        intro ad7 N7 c7 W7 hr7 hg7
        have hI := hI.grew hr7 hg7
        refine hK.out _ _ ?_ (fun hHeld => ?_)
        · exact cells_of6P (hI.step.at hVH.out (by simp))
        clear hK K
        have hZ := hZ.grew hg7
        refine wpAnyH_ready (rs := [9]) (by kernel_rfl) (by simp) ?_
        refine AllReadyH.cons (o := _) rfl (fun K hK => ?_) AllReadyH.nil
        refine wp_put_src (.tmp 71) (.tmp 72) (by rfl) (by rfl) hI.row [0] (by first | rfl | (rw [alloc_size]; rfl)) hZ.src (by simp only [List.length_append, List.length_cons, List.length_nil, layI_length]; omega) ?_
        intro ad9 N9 c9 W9 hr9 hg9
        have hI := hI.grew hr9 hg9
        refine hK.out _ _ ?_ (fun hHeld => ?_)
        · exact cells_of6P (hI.step.at hVH.out (by simp))
        clear hK K
        refine wpAnyH_ready (rs := [11]) (by kernel_rfl) (by simp) ?_
        refine AllReadyH.cons (o := _) rfl (fun K hK => ?_) AllReadyH.nil
        go_simp
        refine (hbc.out _ hI.step).mono ?_
        rintro e w11 ⟨rfl, hs11⟩
        rw [← hrH.out]
        have hI := hI.on hs11
        go_wp2_with fail
        refine hK.out _ _ ?_ (fun hHeld => ?_)
        · exact cells_of6P (hI.step.at hVH.out (by simp))
        clear hK K
        refine wpAnyH_take (i := 12) (v := ?_) rfl (by kernel_rfl) (by kernel_rfl) (by kernel_rfl) (fun _ _ _ h => h) (Or.inl ⟨by kernel_rfl, ?_⟩) hHeld ?_
        rotate_left
        · intro w' hSw; (try dsimp only at hSw); go_simp
          all_goals (with_reducible rfl)
        simp only [Act.put, List.getElem_toArray, List.getElem_cons_zero, List.getElem_cons_succ, List.setIfInBounds_toArray, List.set_cons_zero, List.set_cons_succ]
        refine wpAnyH_take (i := 13) (v := undef) rfl (by kernel_rfl) (by kernel_rfl) (by kernel_rfl) (fun _ _ _ h => h) (Or.inr ⟨by kernel_rfl, rfl⟩) hHeld ?_
        simp only [Act.put, List.getElem_toArray, List.getElem_cons_zero, List.getElem_cons_succ, List.setIfInBounds_toArray, List.set_cons_zero, List.set_cons_succ]
        refine wpAnyH_take (i := 14) (v := undef) rfl (by kernel_rfl) (by kernel_rfl) (by kernel_rfl) (fun _ _ _ h => h) (Or.inr ⟨by kernel_rfl, rfl⟩) hHeld ?_
        simp only [Act.put, List.getElem_toArray, List.getElem_cons_zero, List.getElem_cons_succ, List.setIfInBounds_toArray, List.set_cons_zero, List.set_cons_succ]
        refine wpAnyH_take (i := 15) (v := undef) rfl (by kernel_rfl) (by kernel_rfl) (by kernel_rfl) (fun _ _ _ h => h) (Or.inr ⟨by kernel_rfl, rfl⟩) hHeld ?_
        simp only [Act.put, List.getElem_toArray, List.getElem_cons_zero, List.getElem_cons_succ, List.setIfInBounds_toArray, List.set_cons_zero, List.set_cons_succ]
        refine wpAnyH_take (i := 16) (v := ?_) rfl (by kernel_rfl) (by kernel_rfl) (by kernel_rfl) (fun _ _ _ h => h) (Or.inl ⟨by kernel_rfl, ?_⟩) hHeld ?_
        rotate_left
        · intro w' hSw; (try dsimp only at hSw); go_simp
          all_goals (with_reducible rfl)
        simp only [Act.put, List.getElem_toArray, List.getElem_cons_zero, List.getElem_cons_succ, List.setIfInBounds_toArray, List.set_cons_zero, List.set_cons_succ]
        refine wpAnyH_take (i := 17) (v := ?_) rfl (by kernel_rfl) (by kernel_rfl) (by kernel_rfl) (fun _ _ _ h => h) (Or.inl ⟨by kernel_rfl, ?_⟩) hHeld ?_
        rotate_left
        · intro w' hSw; (try dsimp only at hSw); go_simp
          all_goals (with_reducible rfl)
        simp only [Act.put, List.getElem_toArray, List.getElem_cons_zero, List.getElem_cons_succ, List.setIfInBounds_toArray, List.set_cons_zero, List.set_cons_succ]
        refine wpAnyH_take (i := 18) (v := ?_) rfl (by kernel_rfl) (by kernel_rfl) (by kernel_rfl) (fun _ _ _ h => h) (Or.inl ⟨by kernel_rfl, ?_⟩) hHeld ?_
        rotate_left
        · intro w' hSw; (try dsimp only at hSw); go_simp
          all_goals (with_reducible rfl)
        simp only [Act.put, List.getElem_toArray, List.getElem_cons_zero, List.getElem_cons_succ, List.setIfInBounds_toArray, List.set_cons_zero, List.set_cons_succ]
        refine wpAnyH_done (by kernel_rfl) ?_ _
        have hIH := Lib.hid hI
        clear hI v0 v1 v2 v3 v4 v5 hHeld
        go_wp2_with fail
        go_ret2
        refine ⟨ad9, N9, c9, by rw [hokH.out]; rfl, fun _ => ?_, hst1H.out.tail hIH.out.step⟩
        have e : encV (.mk 5 n s b f l) = layI 4 M ++ s ++ [0] := by rw [henH.out, hMH.out]; simp
        rw [e]
        exact ⟨hIH.out.row.len, row_bin hIH.out.row (fun k hk => .inr (by have := hIH.out.own k hk; omega))⟩
    · go_simp
      have hZ := OneB.new (W := W1.drew) (z := 0) (c := 0) (Row.nil _) rfl
      have hW := hW.tail (Step.alloc (.cells #[.int .u8 0] 5))
      refine hK.out _ _ ?_ (fun hHeld => ?_)
      · exact cells_of6P (hW.at hVH.out (by simp))
      clear hK K
      refine wpAnyH_ready (rs := [4]) (by kernel_rfl) (by simp) ?_
      refine AllReadyH.cons (o := _) rfl (fun K hK => ?_) AllReadyH.nil
      go_simp
      refine (ref_num M 4 _ (by omega) ⟨by omega, by omega⟩).mono ?_
      rintro e w2 ⟨nv, rfl, hr2, hs2, hnew2⟩
      obtain ⟨na, nn, nc, rfl, hnn⟩ := hr2.shapeN
      have hI := NewI.num hW hr2 hs2 hnew2
      clear hnn
      go_wp2_with fail
      refine hK.out _ _ ?_ (fun hHeld => ?_)
      · exact cells_of6P (hI.step.at hVH.out (by simp))
      clear hK K
      have hZ := hZ.with hs2 hnew2
      refine wpAnyH_ready (rs := [7]) (by kernel_rfl) (by simp) ?_
      refine AllReadyH.cons (o := _) rfl (fun K hK => ?_) AllReadyH.nil
      refine wp_put_str (.tmp 68) (.tmp 70) (by rfl) (by rfl) hI.row s (by rw [← hS0H.out]; rfl) (by simp only [List.length_append, List.length_cons, List.length_nil, layI_length]; omega) ?_
      intro ad7 N7 c7 W7 hr7 hg7
      have hI := hI.grew hr7 hg7
      refine hK.out _ _ ?_ (fun hHeld => ?_)
      · exact cells_of6P (hI.step.at hVH.out (by simp))
      clear hK K
      have hZ := hZ.grew hg7
      refine wpAnyH_ready (rs := [9]) (by kernel_rfl) (by simp) ?_
      refine AllReadyH.cons (o := _) rfl (fun K hK => ?_) AllReadyH.nil
      refine wp_put_src (.tmp 71) (.tmp 72) (by rfl) (by rfl) hI.row [0] (by first | rfl | (rw [alloc_size]; rfl)) hZ.src (by simp only [List.length_append, List.length_cons, List.length_nil, layI_length]; omega) ?_
      intro ad9 N9 c9 W9 hr9 hg9
      have hI := hI.grew hr9 hg9
      refine hK.out _ _ ?_ (fun hHeld => ?_)
      · exact cells_of6P (hI.step.at hVH.out (by simp))
      clear hK K
      refine wpAnyH_ready (rs := [11]) (by kernel_rfl) (by simp) ?_
      refine AllReadyH.cons (o := _) rfl (fun K hK => ?_) AllReadyH.nil
      go_simp
      refine (hbc.out _ hI.step).mono ?_
      rintro e w11 ⟨rfl, hs11⟩
      rw [← hrH.out]
      have hI := hI.on hs11
      go_wp2_with fail
      refine hK.out _ _ ?_ (fun hHeld => ?_)
      · exact cells_of6P (hI.step.at hVH.out (by simp))
      clear hK K
      refine wpAnyH_take (i := 12) (v := ?_) rfl (by kernel_rfl) (by kernel_rfl) (by kernel_rfl) (fun _ _ _ h => h) (Or.inl ⟨by kernel_rfl, ?_⟩) hHeld ?_
      rotate_left
      · intro w' hSw; (try dsimp only at hSw); go_simp
        all_goals (with_reducible rfl)
      simp only [Act.put, List.getElem_toArray, List.getElem_cons_zero, List.getElem_cons_succ, List.setIfInBounds_toArray, List.set_cons_zero, List.set_cons_succ]
      refine wpAnyH_take (i := 13) (v := undef) rfl (by kernel_rfl) (by kernel_rfl) (by kernel_rfl) (fun _ _ _ h => h) (Or.inr ⟨by kernel_rfl, rfl⟩) hHeld ?_
      simp only [Act.put, List.getElem_toArray, List.getElem_cons_zero, List.getElem_cons_succ, List.setIfInBounds_toArray, List.set_cons_zero, List.set_cons_succ]
      refine wpAnyH_take (i := 14) (v := undef) rfl (by kernel_rfl) (by kernel_rfl) (by kernel_rfl) (fun _ _ _ h => h) (Or.inr ⟨by kernel_rfl, rfl⟩) hHeld ?_
      simp only [Act.put, List.getElem_toArray, List.getElem_cons_zero, List.getElem_cons_succ, List.setIfInBounds_toArray, List.set_cons_zero, List.set_cons_succ]
      refine wpAnyH_take (i := 15) (v := undef) rfl (by kernel_rfl) (by kernel_rfl) (by kernel_rfl) (fun _ _ _ h => h) (Or.inr ⟨by kernel_rfl, rfl⟩) hHeld ?_
      simp only [Act.put, List.getElem_toArray, List.getElem_cons_zero, List.getElem_cons_succ, List.setIfInBounds_toArray, List.set_cons_zero, List.set_cons_succ]
      refine wpAnyH_take (i := 16) (v := ?_) rfl (by kernel_rfl) (by kernel_rfl) (by kernel_rfl) (fun _ _ _ h => h) (Or.inl ⟨by kernel_rfl, ?_⟩) hHeld ?_
      rotate_left
      · intro w' hSw; (try dsimp only at hSw); go_simp
        all_goals (with_reducible rfl)
      simp only [Act.put, List.getElem_toArray, List.getElem_cons_zero, List.getElem_cons_succ, List.setIfInBounds_toArray, List.set_cons_zero, List.set_cons_succ]
      refine wpAnyH_take (i := 17) (v := ?_) rfl (by kernel_rfl) (by kernel_rfl) (by kernel_rfl) (fun _ _ _ h => h) (Or.inl ⟨by kernel_rfl, ?_⟩) hHeld ?_
      rotate_left
      · intro w' hSw; (try dsimp only at hSw); go_simp
        all_goals (with_reducible rfl)
      simp only [Act.put, List.getElem_toArray, List.getElem_cons_zero, List.getElem_cons_succ, List.setIfInBounds_toArray, List.set_cons_zero, List.set_cons_succ]
      refine wpAnyH_take (i := 18) (v := ?_) rfl (by kernel_rfl) (by kernel_rfl) (by kernel_rfl) (fun _ _ _ h => h) (Or.inl ⟨by kernel_rfl, ?_⟩) hHeld ?_
      rotate_left
      · intro w' hSw; (try dsimp only at hSw); go_simp
        all_goals (with_reducible rfl)
      simp only [Act.put, List.getElem_toArray, List.getElem_cons_zero, List.getElem_cons_succ, List.setIfInBounds_toArray, List.set_cons_zero, List.set_cons_succ]
      refine wpAnyH_done (by kernel_rfl) ?_ _
      have hIH := Lib.hid hI
      clear hI v0 v1 v2 v3 v4 v5 hHeld
      go_wp2_with fail
      go_ret2
      refine ⟨ad9, N9, c9, by rw [hokH.out]; rfl, fun _ => ?_, hst1H.out.tail hIH.out.step⟩
      have e : encV (.mk 5 n s b f l) = layI 4 M ++ s ++ [0] := by rw [henH.out, hMH.out]; simp
      rw [e]
      exact ⟨hIH.out.row.len, row_bin hIH.out.row (fun k hk => .inr (by have := hIH.out.own k hk; omega))⟩
  · have hokH := Lib.hid (show okV d (.mk 5 n s b f l) = u by rw [heH.out, ← hrH.out, huH.out]; rfl)
    go_enter Tryd.func35, Tryd.ntmps35
    go_wp2_with fail
    rw [← hW1H.out]
    refine wp_region_held_drew (S := fun w' => w'.cell? ⟨w.heap.size, 0, none⟩ = some (.int .i64 5) ∧ w'.cell? ⟨w.heap.size, 1, none⟩ = some (.int .i64 n) ∧ w'.cell? ⟨w.heap.size, 2, none⟩ = some (.string S0) ∧ w'.cell? ⟨w.heap.size, 3, none⟩ = some (.slice ba bn bc) ∧ w'.cell? ⟨w.heap.size, 4, none⟩ = some (.slice fa fn fc) ∧ w'.cell? ⟨w.heap.size, 5, none⟩ = some (.slice la ln lc)) (by kernel_rfl) ⟨v0, v1, v2, v3, v4, v5⟩ (fun hHeld => ?_)
    have hW : Step [] id id W1 W1.drew := Step.drew
    refine wpAnyH_take (i := 0) (v := ?_) rfl (by kernel_rfl) (by kernel_rfl) (by kernel_rfl) (fun _ _ _ h => h) (Or.inl ⟨by kernel_rfl, ?_⟩) hHeld ?_
    rotate_left
    · intro w' hSw; (try dsimp only at hSw); go_simp
      all_goals (with_reducible rfl)
    simp only [Act.put, List.getElem_toArray, List.getElem_cons_zero, List.getElem_cons_succ, List.setIfInBounds_toArray, List.set_cons_zero, List.set_cons_succ]
    refine wpAnyH_take (i := 1) (v := ?_) rfl (by kernel_rfl) (by kernel_rfl) (by kernel_rfl) (fun _ _ _ h => h) (Or.inl ⟨by kernel_rfl, ?_⟩) hHeld ?_
    rotate_left
    · intro w' hSw; (try dsimp only at hSw); go_simp
      all_goals (with_reducible rfl)
    simp only [Act.put, List.getElem_toArray, List.getElem_cons_zero, List.getElem_cons_succ, List.setIfInBounds_toArray, List.set_cons_zero, List.set_cons_succ]
    refine wpAnyH_take (i := 2) (v := ?_) rfl (by kernel_rfl) (by kernel_rfl) (by kernel_rfl) (fun _ _ _ h => h) (Or.inl ⟨by kernel_rfl, ?_⟩) hHeld ?_
    rotate_left
    · intro w' hSw; (try dsimp only at hSw); go_simp
      all_goals (with_reducible rfl)
    simp only [Act.put, List.getElem_toArray, List.getElem_cons_zero, List.getElem_cons_succ, List.setIfInBounds_toArray, List.set_cons_zero, List.set_cons_succ]
    refine wpAnyH_take (i := 3) (v := ?_) rfl (by kernel_rfl) (by kernel_rfl) (by kernel_rfl) (fun _ _ _ h => h) (Or.inl ⟨by kernel_rfl, ?_⟩) hHeld ?_
    rotate_left
    · intro w' hSw; (try dsimp only at hSw); go_simp
      all_goals (with_reducible rfl)
    simp only [Act.put, List.getElem_toArray, List.getElem_cons_zero, List.getElem_cons_succ, List.setIfInBounds_toArray, List.set_cons_zero, List.set_cons_succ]
    refine wpAnyH_take (i := 5) (v := ?_) rfl (by kernel_rfl) (by kernel_rfl) (by kernel_rfl) (fun _ _ _ h => h) (Or.inl ⟨by kernel_rfl, ?_⟩) hHeld ?_
    rotate_left
    · intro w' hSw; (try dsimp only at hSw); go_simp
      all_goals (with_reducible rfl)
    simp only [Act.put, List.getElem_toArray, List.getElem_cons_zero, List.getElem_cons_succ, List.setIfInBounds_toArray, List.set_cons_zero, List.set_cons_succ]
    refine wpAnyH_take (i := 6) (v := ?_) rfl (by kernel_rfl) (by kernel_rfl) (by kernel_rfl) (fun _ _ _ h => h) (Or.inl ⟨by kernel_rfl, ?_⟩) hHeld ?_
    rotate_left
    · intro w' hSw; (try dsimp only at hSw); go_simp
      all_goals (with_reducible rfl)
    simp only [Act.put, List.getElem_toArray, List.getElem_cons_zero, List.getElem_cons_succ, List.setIfInBounds_toArray, List.set_cons_zero, List.set_cons_succ]
    refine wpAnyH_take (i := 10) (v := ?_) rfl (by kernel_rfl) (by kernel_rfl) (by kernel_rfl) (fun _ _ _ h => h) (Or.inl ⟨by kernel_rfl, ?_⟩) hHeld ?_
    rotate_left
    · intro w' hSw; (try dsimp only at hSw); go_simp
      all_goals (with_reducible rfl)
    simp only [Act.put, List.getElem_toArray, List.getElem_cons_zero, List.getElem_cons_succ, List.setIfInBounds_toArray, List.set_cons_zero, List.set_cons_succ]
    rw [← hMH2.out]
    refine wpAnyH_ready (rs := [4, 8]) (by kernel_rfl) (by simp) ?_
    refine AllReadyH.cons (o := _) rfl (fun K hK => ?_) (AllReadyH.cons (o := _) rfl (fun K hK => ?_) AllReadyH.nil)
    · go_simp
      refine (ref_num M 4 _ (by omega) ⟨by omega, by omega⟩).mono ?_
      rintro e w2 ⟨nv, rfl, hr2, hs2, hnew2⟩
      obtain ⟨na, nn, nc, rfl, hnn⟩ := hr2.shapeN
      have hI := NewI.num hW hr2 hs2 hnew2
      clear hnn
      go_wp2_with fail
      refine hK.out _ _ ?_ (fun hHeld => ?_)
      · exact cells_of6P (hI.step.at hVH.out (by simp))
      clear hK K
      refine wpAnyH_ready (rs := [7, 8]) (by kernel_rfl) (by simp) ?_
      refine AllReadyH.cons (o := _) rfl (fun K hK => ?_) (AllReadyH.cons (o := _) rfl (fun K hK => ?_) AllReadyH.nil)
      · refine wp_put_str (.tmp 68) (.tmp 70) (by rfl) (by rfl) hI.row s (by rw [← hS0H.out]; rfl) (by simp only [List.length_append, List.length_cons, List.length_nil, layI_length]; omega) ?_
        intro ad7 N7 c7 W7 hr7 hg7
        have hI := hI.grew hr7 hg7
        refine hK.out _ _ ?_ (fun hHeld => ?_)
        · exact cells_of6P (hI.step.at hVH.out (by simp))
        clear hK K
        refine wpAnyH_ready (rs := [8]) (by kernel_rfl) (by simp) ?_
        refine AllReadyH.cons (o := _) rfl (fun K hK => ?_) AllReadyH.nil
        go_simp
        have hZ := OneB.new (z := 0) (c := 0) hI.row rfl
        have hI := hI.on (Step.alloc (.cells #[.int .u8 0] 5))
        refine hK.out _ _ ?_ (fun hHeld => ?_)
        · exact cells_of6P (hI.step.at hVH.out (by simp))
        clear hK K
        refine wpAnyH_ready (rs := [9]) (by kernel_rfl) (by simp) ?_
        refine AllReadyH.cons (o := _) rfl (fun K hK => ?_) AllReadyH.nil
        refine wp_put_src (.tmp 71) (.tmp 72) (by rfl) (by rfl) hI.row [0] (by first | rfl | (rw [alloc_size]; rfl)) hZ.src (by simp only [List.length_append, List.length_cons, List.length_nil, layI_length]; omega) ?_
        intro ad9 N9 c9 W9 hr9 hg9
        have hI := hI.grew hr9 hg9
        refine hK.out _ _ ?_ (fun hHeld => ?_)
        · exact cells_of6P (hI.step.at hVH.out (by simp))
        clear hK K
        refine wpAnyH_ready (rs := [11]) (by kernel_rfl) (by simp) ?_
        refine AllReadyH.cons (o := _) rfl (fun K hK => ?_) AllReadyH.nil
        go_simp
        refine (hbc.out _ hI.step).mono ?_
        rintro e w11 ⟨rfl, hs11⟩
        rw [← hrH.out]
        have hI := hI.on hs11
        go_wp2_with fail
        refine hK.out _ _ ?_ (fun hHeld => ?_)
        · exact cells_of6P (hI.step.at hVH.out (by simp))
        clear hK K
        refine wpAnyH_take (i := 12) (v := ?_) rfl (by kernel_rfl) (by kernel_rfl) (by kernel_rfl) (fun _ _ _ h => h) (Or.inl ⟨by kernel_rfl, ?_⟩) hHeld ?_
        rotate_left
        · intro w' hSw; (try dsimp only at hSw); go_simp
          all_goals (with_reducible rfl)
        simp only [Act.put, List.getElem_toArray, List.getElem_cons_zero, List.getElem_cons_succ, List.setIfInBounds_toArray, List.set_cons_zero, List.set_cons_succ]
        refine wpAnyH_take (i := 13) (v := ?_) rfl (by kernel_rfl) (by kernel_rfl) (by kernel_rfl) (fun _ _ _ h => h) (Or.inl ⟨by kernel_rfl, ?_⟩) hHeld ?_
        rotate_left
        · intro w' hSw; (try dsimp only at hSw); go_simp
          all_goals (with_reducible rfl)
        simp only [Act.put, List.getElem_toArray, List.getElem_cons_zero, List.getElem_cons_succ, List.setIfInBounds_toArray, List.set_cons_zero, List.set_cons_succ]
        refine wpAnyH_take (i := 14) (v := ?_) rfl (by kernel_rfl) (by kernel_rfl) (by kernel_rfl) (fun _ _ _ h => h) (Or.inl ⟨by kernel_rfl, ?_⟩) hHeld ?_
        rotate_left
        · intro w' hSw; (try dsimp only at hSw); go_simp
          all_goals (with_reducible rfl)
        simp only [Act.put, List.getElem_toArray, List.getElem_cons_zero, List.getElem_cons_succ, List.setIfInBounds_toArray, List.set_cons_zero, List.set_cons_succ]
        refine wpAnyH_ready (rs := [15]) (by kernel_rfl) (by simp) ?_
        refine AllReadyH.cons (o := _) rfl (fun K hK => ?_) AllReadyH.nil
        go_simp
        refine (hut _).mono ?_
        rintro e w' ⟨rfl, rfl⟩
        go_wp2_with fail
        refine hK.out _ _ ?_ (fun hHeld => ?_)
        · exact cells_of6P (hI.step.at hVH.out (by simp))
        clear hK K
        refine wpAnyH_take (i := 16) (v := ?_) rfl (by kernel_rfl) (by kernel_rfl) (by kernel_rfl) (fun _ _ _ h => h) (Or.inl ⟨by kernel_rfl, ?_⟩) hHeld ?_
        rotate_left
        · intro w' hSw; (try dsimp only at hSw); go_simp
          all_goals (with_reducible rfl)
        simp only [Act.put, List.getElem_toArray, List.getElem_cons_zero, List.getElem_cons_succ, List.setIfInBounds_toArray, List.set_cons_zero, List.set_cons_succ]
        refine wpAnyH_take (i := 17) (v := ?_) rfl (by kernel_rfl) (by kernel_rfl) (by kernel_rfl) (fun _ _ _ h => h) (Or.inl ⟨by kernel_rfl, ?_⟩) hHeld ?_
        rotate_left
        · intro w' hSw; (try dsimp only at hSw); go_simp
          all_goals (with_reducible rfl)
        simp only [Act.put, List.getElem_toArray, List.getElem_cons_zero, List.getElem_cons_succ, List.setIfInBounds_toArray, List.set_cons_zero, List.set_cons_succ]
        refine wpAnyH_take (i := 18) (v := ?_) rfl (by kernel_rfl) (by kernel_rfl) (by kernel_rfl) (fun _ _ _ h => h) (Or.inl ⟨by kernel_rfl, ?_⟩) hHeld ?_
        rotate_left
        · intro w' hSw; (try dsimp only at hSw); go_simp
          all_goals (with_reducible rfl)
        simp only [Act.put, List.getElem_toArray, List.getElem_cons_zero, List.getElem_cons_succ, List.setIfInBounds_toArray, List.set_cons_zero, List.set_cons_succ]
        refine wpAnyH_done (by kernel_rfl) ?_ _
        have hIH := Lib.hid hI
        clear hI v0 v1 v2 v3 v4 v5 hHeld
        go_wp2_with fail
        go_ret2
        refine ⟨ad9, N9, c9, by rw [hokH.out]; rfl, fun _ => ?_, hst1H.out.tail hIH.out.step⟩
        have e : encV (.mk 5 n s b f l) = layI 4 M ++ s ++ [0] := by rw [henH.out, hMH.out]; simp
        rw [e]
        exact ⟨hIH.out.row.len, row_bin hIH.out.row (fun k hk => .inr (by have := hIH.out.own k hk; omega))⟩
      · go_simp
        have hZ := OneB.new (z := 0) (c := 0) hI.row rfl
        have hI := hI.on (Step.alloc (.cells #[.int .u8 0] 5))
        refine hK.out _ _ ?_ (fun hHeld => ?_)
        · exact cells_of6P (hI.step.at hVH.out (by simp))
        clear hK K
        refine wpAnyH_ready (rs := [7]) (by kernel_rfl) (by simp) ?_
        refine AllReadyH.cons (o := _) rfl (fun K hK => ?_) AllReadyH.nil
        refine wp_put_str (.tmp 68) (.tmp 70) (by rfl) (by rfl) hI.row s (by rw [← hS0H.out]; rfl) (by simp only [List.length_append, List.length_cons, List.length_nil, layI_length]; omega) ?_
        intro ad7 N7 c7 W7 hr7 hg7
        have hI := hI.grew hr7 hg7
        refine hK.out _ _ ?_ (fun hHeld => ?_)
        · exact cells_of6P (hI.step.at hVH.out (by simp))
        clear hK K
        have hZ := hZ.grew hg7
        refine wpAnyH_ready (rs := [9]) (by kernel_rfl) (by simp) ?_
        refine AllReadyH.cons (o := _) rfl (fun K hK => ?_) AllReadyH.nil
        refine wp_put_src (.tmp 71) (.tmp 72) (by rfl) (by rfl) hI.row [0] (by first | rfl | (rw [alloc_size]; rfl)) hZ.src (by simp only [List.length_append, List.length_cons, List.length_nil, layI_length]; omega) ?_
        intro ad9 N9 c9 W9 hr9 hg9
        have hI := hI.grew hr9 hg9
        refine hK.out _ _ ?_ (fun hHeld => ?_)
        · exact cells_of6P (hI.step.at hVH.out (by simp))
        clear hK K
        refine wpAnyH_ready (rs := [11]) (by kernel_rfl) (by simp) ?_
        refine AllReadyH.cons (o := _) rfl (fun K hK => ?_) AllReadyH.nil
        go_simp
        refine (hbc.out _ hI.step).mono ?_
        rintro e w11 ⟨rfl, hs11⟩
        rw [← hrH.out]
        have hI := hI.on hs11
        go_wp2_with fail
        refine hK.out _ _ ?_ (fun hHeld => ?_)
        · exact cells_of6P (hI.step.at hVH.out (by simp))
        clear hK K
        refine wpAnyH_take (i := 12) (v := ?_) rfl (by kernel_rfl) (by kernel_rfl) (by kernel_rfl) (fun _ _ _ h => h) (Or.inl ⟨by kernel_rfl, ?_⟩) hHeld ?_
        rotate_left
        · intro w' hSw; (try dsimp only at hSw); go_simp
          all_goals (with_reducible rfl)
        simp only [Act.put, List.getElem_toArray, List.getElem_cons_zero, List.getElem_cons_succ, List.setIfInBounds_toArray, List.set_cons_zero, List.set_cons_succ]
        refine wpAnyH_take (i := 13) (v := ?_) rfl (by kernel_rfl) (by kernel_rfl) (by kernel_rfl) (fun _ _ _ h => h) (Or.inl ⟨by kernel_rfl, ?_⟩) hHeld ?_
        rotate_left
        · intro w' hSw; (try dsimp only at hSw); go_simp
          all_goals (with_reducible rfl)
        simp only [Act.put, List.getElem_toArray, List.getElem_cons_zero, List.getElem_cons_succ, List.setIfInBounds_toArray, List.set_cons_zero, List.set_cons_succ]
        refine wpAnyH_take (i := 14) (v := ?_) rfl (by kernel_rfl) (by kernel_rfl) (by kernel_rfl) (fun _ _ _ h => h) (Or.inl ⟨by kernel_rfl, ?_⟩) hHeld ?_
        rotate_left
        · intro w' hSw; (try dsimp only at hSw); go_simp
          all_goals (with_reducible rfl)
        simp only [Act.put, List.getElem_toArray, List.getElem_cons_zero, List.getElem_cons_succ, List.setIfInBounds_toArray, List.set_cons_zero, List.set_cons_succ]
        refine wpAnyH_ready (rs := [15]) (by kernel_rfl) (by simp) ?_
        refine AllReadyH.cons (o := _) rfl (fun K hK => ?_) AllReadyH.nil
        go_simp
        refine (hut _).mono ?_
        rintro e w' ⟨rfl, rfl⟩
        go_wp2_with fail
        refine hK.out _ _ ?_ (fun hHeld => ?_)
        · exact cells_of6P (hI.step.at hVH.out (by simp))
        clear hK K
        refine wpAnyH_take (i := 16) (v := ?_) rfl (by kernel_rfl) (by kernel_rfl) (by kernel_rfl) (fun _ _ _ h => h) (Or.inl ⟨by kernel_rfl, ?_⟩) hHeld ?_
        rotate_left
        · intro w' hSw; (try dsimp only at hSw); go_simp
          all_goals (with_reducible rfl)
        simp only [Act.put, List.getElem_toArray, List.getElem_cons_zero, List.getElem_cons_succ, List.setIfInBounds_toArray, List.set_cons_zero, List.set_cons_succ]
        refine wpAnyH_take (i := 17) (v := ?_) rfl (by kernel_rfl) (by kernel_rfl) (by kernel_rfl) (fun _ _ _ h => h) (Or.inl ⟨by kernel_rfl, ?_⟩) hHeld ?_
        rotate_left
        · intro w' hSw; (try dsimp only at hSw); go_simp
          all_goals (with_reducible rfl)
        simp only [Act.put, List.getElem_toArray, List.getElem_cons_zero, List.getElem_cons_succ, List.setIfInBounds_toArray, List.set_cons_zero, List.set_cons_succ]
        refine wpAnyH_take (i := 18) (v := ?_) rfl (by kernel_rfl) (by kernel_rfl) (by kernel_rfl) (fun _ _ _ h => h) (Or.inl ⟨by kernel_rfl, ?_⟩) hHeld ?_
        rotate_left
        · intro w' hSw; (try dsimp only at hSw); go_simp
          all_goals (with_reducible rfl)
        simp only [Act.put, List.getElem_toArray, List.getElem_cons_zero, List.getElem_cons_succ, List.setIfInBounds_toArray, List.set_cons_zero, List.set_cons_succ]
        refine wpAnyH_done (by kernel_rfl) ?_ _
        have hIH := Lib.hid hI
        clear hI v0 v1 v2 v3 v4 v5 hHeld
        go_wp2_with fail
        go_ret2
        refine ⟨ad9, N9, c9, by rw [hokH.out]; rfl, fun _ => ?_, hst1H.out.tail hIH.out.step⟩
        have e : encV (.mk 5 n s b f l) = layI 4 M ++ s ++ [0] := by rw [henH.out, hMH.out]; simp
        rw [e]
        exact ⟨hIH.out.row.len, row_bin hIH.out.row (fun k hk => .inr (by have := hIH.out.own k hk; omega))⟩
    · go_simp
      have hZ := OneB.new (W := W1.drew) (z := 0) (c := 0) (Row.nil _) rfl
      have hW := hW.tail (Step.alloc (.cells #[.int .u8 0] 5))
      refine hK.out _ _ ?_ (fun hHeld => ?_)
      · exact cells_of6P (hW.at hVH.out (by simp))
      clear hK K
      refine wpAnyH_ready (rs := [4]) (by kernel_rfl) (by simp) ?_
      refine AllReadyH.cons (o := _) rfl (fun K hK => ?_) AllReadyH.nil
      go_simp
      refine (ref_num M 4 _ (by omega) ⟨by omega, by omega⟩).mono ?_
      rintro e w2 ⟨nv, rfl, hr2, hs2, hnew2⟩
      obtain ⟨na, nn, nc, rfl, hnn⟩ := hr2.shapeN
      have hI := NewI.num hW hr2 hs2 hnew2
      clear hnn
      go_wp2_with fail
      refine hK.out _ _ ?_ (fun hHeld => ?_)
      · exact cells_of6P (hI.step.at hVH.out (by simp))
      clear hK K
      have hZ := hZ.with hs2 hnew2
      refine wpAnyH_ready (rs := [7]) (by kernel_rfl) (by simp) ?_
      refine AllReadyH.cons (o := _) rfl (fun K hK => ?_) AllReadyH.nil
      refine wp_put_str (.tmp 68) (.tmp 70) (by rfl) (by rfl) hI.row s (by rw [← hS0H.out]; rfl) (by simp only [List.length_append, List.length_cons, List.length_nil, layI_length]; omega) ?_
      intro ad7 N7 c7 W7 hr7 hg7
      have hI := hI.grew hr7 hg7
      refine hK.out _ _ ?_ (fun hHeld => ?_)
      · exact cells_of6P (hI.step.at hVH.out (by simp))
      clear hK K
      have hZ := hZ.grew hg7
      refine wpAnyH_ready (rs := [9]) (by kernel_rfl) (by simp) ?_
      refine AllReadyH.cons (o := _) rfl (fun K hK => ?_) AllReadyH.nil
      refine wp_put_src (.tmp 71) (.tmp 72) (by rfl) (by rfl) hI.row [0] (by first | rfl | (rw [alloc_size]; rfl)) hZ.src (by simp only [List.length_append, List.length_cons, List.length_nil, layI_length]; omega) ?_
      intro ad9 N9 c9 W9 hr9 hg9
      have hI := hI.grew hr9 hg9
      refine hK.out _ _ ?_ (fun hHeld => ?_)
      · exact cells_of6P (hI.step.at hVH.out (by simp))
      clear hK K
      refine wpAnyH_ready (rs := [11]) (by kernel_rfl) (by simp) ?_
      refine AllReadyH.cons (o := _) rfl (fun K hK => ?_) AllReadyH.nil
      go_simp
      refine (hbc.out _ hI.step).mono ?_
      rintro e w11 ⟨rfl, hs11⟩
      rw [← hrH.out]
      have hI := hI.on hs11
      go_wp2_with fail
      refine hK.out _ _ ?_ (fun hHeld => ?_)
      · exact cells_of6P (hI.step.at hVH.out (by simp))
      clear hK K
      refine wpAnyH_take (i := 12) (v := ?_) rfl (by kernel_rfl) (by kernel_rfl) (by kernel_rfl) (fun _ _ _ h => h) (Or.inl ⟨by kernel_rfl, ?_⟩) hHeld ?_
      rotate_left
      · intro w' hSw; (try dsimp only at hSw); go_simp
        all_goals (with_reducible rfl)
      simp only [Act.put, List.getElem_toArray, List.getElem_cons_zero, List.getElem_cons_succ, List.setIfInBounds_toArray, List.set_cons_zero, List.set_cons_succ]
      refine wpAnyH_take (i := 13) (v := ?_) rfl (by kernel_rfl) (by kernel_rfl) (by kernel_rfl) (fun _ _ _ h => h) (Or.inl ⟨by kernel_rfl, ?_⟩) hHeld ?_
      rotate_left
      · intro w' hSw; (try dsimp only at hSw); go_simp
        all_goals (with_reducible rfl)
      simp only [Act.put, List.getElem_toArray, List.getElem_cons_zero, List.getElem_cons_succ, List.setIfInBounds_toArray, List.set_cons_zero, List.set_cons_succ]
      refine wpAnyH_take (i := 14) (v := ?_) rfl (by kernel_rfl) (by kernel_rfl) (by kernel_rfl) (fun _ _ _ h => h) (Or.inl ⟨by kernel_rfl, ?_⟩) hHeld ?_
      rotate_left
      · intro w' hSw; (try dsimp only at hSw); go_simp
        all_goals (with_reducible rfl)
      simp only [Act.put, List.getElem_toArray, List.getElem_cons_zero, List.getElem_cons_succ, List.setIfInBounds_toArray, List.set_cons_zero, List.set_cons_succ]
      refine wpAnyH_ready (rs := [15]) (by kernel_rfl) (by simp) ?_
      refine AllReadyH.cons (o := _) rfl (fun K hK => ?_) AllReadyH.nil
      go_simp
      refine (hut _).mono ?_
      rintro e w' ⟨rfl, rfl⟩
      go_wp2_with fail
      refine hK.out _ _ ?_ (fun hHeld => ?_)
      · exact cells_of6P (hI.step.at hVH.out (by simp))
      clear hK K
      refine wpAnyH_take (i := 16) (v := ?_) rfl (by kernel_rfl) (by kernel_rfl) (by kernel_rfl) (fun _ _ _ h => h) (Or.inl ⟨by kernel_rfl, ?_⟩) hHeld ?_
      rotate_left
      · intro w' hSw; (try dsimp only at hSw); go_simp
        all_goals (with_reducible rfl)
      simp only [Act.put, List.getElem_toArray, List.getElem_cons_zero, List.getElem_cons_succ, List.setIfInBounds_toArray, List.set_cons_zero, List.set_cons_succ]
      refine wpAnyH_take (i := 17) (v := ?_) rfl (by kernel_rfl) (by kernel_rfl) (by kernel_rfl) (fun _ _ _ h => h) (Or.inl ⟨by kernel_rfl, ?_⟩) hHeld ?_
      rotate_left
      · intro w' hSw; (try dsimp only at hSw); go_simp
        all_goals (with_reducible rfl)
      simp only [Act.put, List.getElem_toArray, List.getElem_cons_zero, List.getElem_cons_succ, List.setIfInBounds_toArray, List.set_cons_zero, List.set_cons_succ]
      refine wpAnyH_take (i := 18) (v := ?_) rfl (by kernel_rfl) (by kernel_rfl) (by kernel_rfl) (fun _ _ _ h => h) (Or.inl ⟨by kernel_rfl, ?_⟩) hHeld ?_
      rotate_left
      · intro w' hSw; (try dsimp only at hSw); go_simp
        all_goals (with_reducible rfl)
      simp only [Act.put, List.getElem_toArray, List.getElem_cons_zero, List.getElem_cons_succ, List.setIfInBounds_toArray, List.set_cons_zero, List.set_cons_succ]
      refine wpAnyH_done (by kernel_rfl) ?_ _
      have hIH := Lib.hid hI
      clear hI v0 v1 v2 v3 v4 v5 hHeld
      go_wp2_with fail
      go_ret2
      refine ⟨ad9, N9, c9, by rw [hokH.out]; rfl, fun _ => ?_, hst1H.out.tail hIH.out.step⟩
      have e : encV (.mk 5 n s b f l) = layI 4 M ++ s ++ [0] := by rw [henH.out, hMH.out]; simp
      rw [e]
      exact ⟨hIH.out.row.len, row_bin hIH.out.row (fun k hk => .inr (by have := hIH.out.own k hk; omega))⟩
end Go.Proofs.YtbkmnhogfegmcaaDoor

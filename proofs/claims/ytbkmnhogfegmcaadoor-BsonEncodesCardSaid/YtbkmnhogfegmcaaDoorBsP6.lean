/- The reference: own: values without parts. -/
import Derived.Test.YtbkmnhogfegmcaaDoorBsP5
set_option linter.unusedVariables false
set_option linter.unusedSimpArgs false
namespace Go.Proofs.YtbkmnhogfegmcaaDoor
open Go.RowKit

theorem cells_of6P {w : World} {V : Nat} {v0 v1 v2 v3 v4 v5 : Value} {t : TypeId} (h : w.heap[V]? = some (.cells #[v0, v1, v2, v3, v4, v5] t (0, 0))) :
    w.cell? ⟨V, 0, none⟩ = some v0 ∧ w.cell? ⟨V, 1, none⟩ = some v1 ∧ w.cell? ⟨V, 2, none⟩ = some v2 ∧ w.cell? ⟨V, 3, none⟩ = some v3 ∧ w.cell? ⟨V, 4, none⟩ = some v4 ∧ w.cell? ⟨V, 5, none⟩ = some v5 :=
  ⟨cell_blk h (i := 0) rfl, cell_blk h (i := 1) rfl, cell_blk h (i := 2) rfl, cell_blk h (i := 3) rfl, cell_blk h (i := 4) rfl, cell_blk h (i := 5) rfl⟩
/-- Values that have no bytes of their own. -/
theorem okV_bare {d : Nat} {k n : Int} {s b : Bs} {f : List (Bs × Val)} {l : List Val} (hk : k = 1 ∨ k = 2 ∨ k = 12) : okV d (.mk k n s b f l) = bareB (.mk k n s b f l) false false false false false ∧ encV (.mk k n s b f l) = [] := by
  rcases hk with rfl | rfl | rfl <;> (rw [okV, encV]; simp [Val.plain, bareB, codeOf])
set_option maxRecDepth 100000 in
set_option maxHeartbeats 4000000 in
theorem own_none {P : Nat → Prop} {w : World} {d : Nat} {k n : Int} {s b : Bs} {f : List (Bs × Val)} {l : List Val} {cs : List Value} (hk : k = 1 ∨ k = 2 ∨ k = 12) (hx : VIs P w (.mk k n s b f l) cs) :
    Calls Tryd.prog 35 #[.agg cs.toArray, .int .i64 ((d : Int) + 1)] w (OwnP P (.mk k n s b f l) d w) := by
  obtain ⟨bv, fa, fc, la, lc, hcs, hb, ⟨hfc, hlc, hfz, hlz⟩, ⟨hk1, hk2, hn1, hn2⟩, -, hf, hl⟩ := hx.cells
  obtain ⟨ba, bc, rfl⟩ := hb.shape
  simp only [Val.kind, Val.num, Val.s, Val.b, Val.f, Val.l] at *
  obtain ⟨S0, hS0⟩ : ∃ k, k = strOf s := ⟨_, rfl⟩
  obtain ⟨bn, hbn⟩ : ∃ k, k = b.length := ⟨_, rfl⟩
  obtain ⟨ln, hln⟩ : ∃ k, k = l.length := ⟨_, rfl⟩
  obtain ⟨fn, hfn⟩ : ∃ k, k = f.length := ⟨_, rfl⟩
  rw [← hS0, ← hbn, ← hln, ← hfn] at hcs
  subst hcs
  obtain ⟨W1, hW1⟩ : ∃ W1, W1 = w.alloc (.cells #[.int .i64 k, .int .i64 n, .string S0, .slice ba bn bc, .slice fa fn fc, .slice la ln lc] 27) := ⟨_, rfl⟩
  have hst1 : Step [] id id w W1 := by rw [hW1]; exact Step.alloc _
  have hV : W1.heap[w.heap.size]? = some (.cells #[.int .i64 k, .int .i64 n, .string S0, .slice ba bn bc, .slice fa fn fc, .slice la ln lc] 27 (0, 0)) := by rw [hW1]; exact heap_alloc_new _ _
  have hx1 := hx.keep (P2 := P) (w' := W1) (fun _ h => h) (fun k hP hk => (hst1.keep k hk (by simp)).2)
  obtain ⟨v0, v1, v2, v3, v4, v5⟩ := cells_of6P hV
  have hVl : w.heap.size < W1.heap.size := lt_of_block hV
  have hVH := Lib.hid hV
  have hx1H := Lib.hid hx1
  have hW1H := Lib.hid hW1
  have hst1H := Lib.hid hst1
  have hS0H := Lib.hid hS0
  have hbnH := Lib.hid hbn
  have hlnH := Lib.hid hln
  have hfnH := Lib.hid hfn
  have hbH := Lib.hid hb
  have hfH := Lib.hid hf
  have hlH := Lib.hid hl
  clear hx hb hf hl hS0 hbn hln hfn hst1 hV hx1 hW1 hfc hlc hfz hlz hk1 hk2
  rcases hk with hk | hk | hk
  · subst hk
    obtain ⟨he, hen⟩ := okV_bare (d := d) (n := n) (s := s) (b := b) (f := f) (l := l) (k := 1) (by simp)
    have hbc := Lib.hid (ref_bare_0 hx1H.out)
    have heH := Lib.hid he
    have henH := Lib.hid hen
    clear he hen
    go_enter Tryd.func35, Tryd.ntmps35
    go_wp2_with fail
    rw [← hW1H.out]
    refine hbc.out.mono ?_
    rintro e w2 ⟨rfl, hs2⟩
    have hs2H := Lib.hid hs2
    clear hs2
    go_wp2_with fail
    go_ret2
    exact ⟨none, 0, 0, by rw [heH.out]; rfl, fun _ => by rw [henH.out]; exact ⟨rfl, .inl ⟨none, 0, rfl, rfl, fun _ => rfl⟩⟩, hst1H.out.tail hs2H.out⟩
  · subst hk
    obtain ⟨he, hen⟩ := okV_bare (d := d) (n := n) (s := s) (b := b) (f := f) (l := l) (k := 2) (by simp)
    have hbc := Lib.hid (ref_bare_0 hx1H.out)
    have heH := Lib.hid he
    have henH := Lib.hid hen
    clear he hen
    go_enter Tryd.func35, Tryd.ntmps35
    go_wp2_with fail
    rw [← hW1H.out]
    refine hbc.out.mono ?_
    rintro e w2 ⟨rfl, hs2⟩
    have hs2H := Lib.hid hs2
    clear hs2
    go_wp2_with fail
    go_ret2
    exact ⟨none, 0, 0, by rw [heH.out]; rfl, fun _ => by rw [henH.out]; exact ⟨rfl, .inl ⟨none, 0, rfl, rfl, fun _ => rfl⟩⟩, hst1H.out.tail hs2H.out⟩
  · subst hk
    obtain ⟨he, hen⟩ := okV_bare (d := d) (n := n) (s := s) (b := b) (f := f) (l := l) (k := 12) (by simp)
    have hbc := Lib.hid (ref_bare_0 hx1H.out)
    have heH := Lib.hid he
    have henH := Lib.hid hen
    clear he hen
    go_enter Tryd.func35, Tryd.ntmps35
    go_wp2_with fail
    rw [← hW1H.out]
    refine hbc.out.mono ?_
    rintro e w2 ⟨rfl, hs2⟩
    have hs2H := Lib.hid hs2
    clear hs2
    go_wp2_with fail
    go_ret2
    exact ⟨none, 0, 0, by rw [heH.out]; rfl, fun _ => by rw [henH.out]; exact ⟨rfl, .inl ⟨none, 0, rfl, rfl, fun _ => rfl⟩⟩, hst1H.out.tail hs2H.out⟩
/-- Kinds that there are not. -/
theorem okV_no {d : Nat} {k n : Int} {s b : Bs} {f : List (Bs × Val)} {l : List Val} (hk : k < 1 ∨ 12 < k) : okV d (.mk k n s b f l) = false := by
  have hc : codeOf k = 0 := by
    unfold codeOf
    rw [if_neg (by omega), if_neg (by omega), if_neg (by omega), if_neg (by omega), if_neg (by omega), if_neg (by omega), if_neg (by omega), if_neg (by omega), if_neg (by omega), if_neg (by omega), if_neg (by omega), if_neg (by omega)]
  rw [okV, hc]; simp
set_option maxRecDepth 100000 in
set_option maxHeartbeats 4000000 in
theorem own_no {P : Nat → Prop} {w : World} {d : Nat} {k n : Int} {s b : Bs} {f : List (Bs × Val)} {l : List Val} {cs : List Value} (hk : k < 1 ∨ 12 < k) (hx : VIs P w (.mk k n s b f l) cs) :
    Calls Tryd.prog 35 #[.agg cs.toArray, .int .i64 ((d : Int) + 1)] w (OwnP P (.mk k n s b f l) d w) := by
  obtain ⟨bv, fa, fc, la, lc, hcs, hb, ⟨hfc, hlc, hfz, hlz⟩, ⟨hk1, hk2, hn1, hn2⟩, -, hf, hl⟩ := hx.cells
  obtain ⟨ba, bc, rfl⟩ := hb.shape
  simp only [Val.kind, Val.num, Val.s, Val.b, Val.f, Val.l] at *
  obtain ⟨S0, hS0⟩ : ∃ k, k = strOf s := ⟨_, rfl⟩
  obtain ⟨bn, hbn⟩ : ∃ k, k = b.length := ⟨_, rfl⟩
  obtain ⟨ln, hln⟩ : ∃ k, k = l.length := ⟨_, rfl⟩
  obtain ⟨fn, hfn⟩ : ∃ k, k = f.length := ⟨_, rfl⟩
  rw [← hS0, ← hbn, ← hln, ← hfn] at hcs
  subst hcs
  obtain ⟨W1, hW1⟩ : ∃ W1, W1 = w.alloc (.cells #[.int .i64 k, .int .i64 n, .string S0, .slice ba bn bc, .slice fa fn fc, .slice la ln lc] 27) := ⟨_, rfl⟩
  have hst1 : Step [] id id w W1 := by rw [hW1]; exact Step.alloc _
  have hV : W1.heap[w.heap.size]? = some (.cells #[.int .i64 k, .int .i64 n, .string S0, .slice ba bn bc, .slice fa fn fc, .slice la ln lc] 27 (0, 0)) := by rw [hW1]; exact heap_alloc_new _ _
  have hx1 := hx.keep (P2 := P) (w' := W1) (fun _ h => h) (fun k hP hk => (hst1.keep k hk (by simp)).2)
  obtain ⟨v0, v1, v2, v3, v4, v5⟩ := cells_of6P hV
  have hVl : w.heap.size < W1.heap.size := lt_of_block hV
  have hVH := Lib.hid hV
  have hx1H := Lib.hid hx1
  have hW1H := Lib.hid hW1
  have hst1H := Lib.hid hst1
  have hS0H := Lib.hid hS0
  have hbnH := Lib.hid hbn
  have hlnH := Lib.hid hln
  have hfnH := Lib.hid hfn
  have hbH := Lib.hid hb
  have hfH := Lib.hid hf
  have hlH := Lib.hid hl
  clear hx hb hf hl hS0 hbn hln hfn hst1 hV hx1 hW1 hfc hlc hfz hlz hk1 hk2
  have hno := Lib.hid (okV_no (d := d) (n := n) (s := s) (b := b) (f := f) (l := l) hk)
  have e1 : (k == 1) = false := by rw [beq_eq_false_iff_ne]; omega
  have e2 : (k == 2) = false := by rw [beq_eq_false_iff_ne]; omega
  have e3 : (k == 3) = false := by rw [beq_eq_false_iff_ne]; omega
  have e4 : (k == 4) = false := by rw [beq_eq_false_iff_ne]; omega
  have e5 : (k == 5) = false := by rw [beq_eq_false_iff_ne]; omega
  have e6 : (k == 6) = false := by rw [beq_eq_false_iff_ne]; omega
  have e7 : (k == 7) = false := by rw [beq_eq_false_iff_ne]; omega
  have e8 : (k == 8) = false := by rw [beq_eq_false_iff_ne]; omega
  have e9 : (k == 9) = false := by rw [beq_eq_false_iff_ne]; omega
  have e10 : (k == 10) = false := by rw [beq_eq_false_iff_ne]; omega
  have e11 : (k == 11) = false := by rw [beq_eq_false_iff_ne]; omega
  have e12 : (k == 12) = false := by rw [beq_eq_false_iff_ne]; omega
  clear hk
  go_enter Tryd.func35, Tryd.ntmps35
  go_wp2_with fail
  rw [← hW1H.out]
  go_ret2
  exact ⟨none, 0, 0, by rw [hno.out]; rfl, fun h => absurd h (by rw [hno.out]; simp), hst1H.out⟩
/-- Numbers of 8 bytes. -/
theorem okV_num8 {d : Nat} {k n : Int} {s b : Bs} {f : List (Bs × Val)} {l : List Val} (hn : -9223372036854775808 ≤ n ∧ n ≤ 9223372036854775807) (hk : k = 4 ∨ k = 11) : okV d (.mk k n s b f l) = bareB (.mk k n s b f l) true false false false false ∧ encV (.mk k n s b f l) = layI 8 n := by
  rcases hk with rfl | rfl <;> (rw [okV, encV]; simp [Val.plain, bareB, codeOf, hn])
theorem row_bin {w : World} {v : Value} {l : Bs} {Q : Nat → Prop} (h : Row w v l) (hQ : ∀ k, v.ownBlock = some k → Q k) : BIn Q w v l := by
  rcases h.bytes with ⟨e, h0⟩ | ⟨g, o, cap, e, h1, h2, h3⟩
  · rw [e]; rw [h0]; exact .inl ⟨none, 0, rfl, rfl, fun _ => rfl⟩
  · rw [e]
    exact .inr ⟨g, o, cap, rfl, h1, hQ g (by rw [e]; rfl), h3⟩
set_option maxRecDepth 100000 in
set_option maxHeartbeats 4000000 in
theorem own_num8 {P : Nat → Prop} {w : World} {d : Nat} {k n : Int} {s b : Bs} {f : List (Bs × Val)} {l : List Val} {cs : List Value} (hk : k = 4 ∨ k = 11) (hx : VIs P w (.mk k n s b f l) cs) :
    Calls Tryd.prog 35 #[.agg cs.toArray, .int .i64 ((d : Int) + 1)] w (OwnP P (.mk k n s b f l) d w) := by
  obtain ⟨bv, fa, fc, la, lc, hcs, hb, ⟨hfc, hlc, hfz, hlz⟩, ⟨hk1, hk2, hn1, hn2⟩, -, hf, hl⟩ := hx.cells
  obtain ⟨ba, bc, rfl⟩ := hb.shape
  simp only [Val.kind, Val.num, Val.s, Val.b, Val.f, Val.l] at *
  obtain ⟨S0, hS0⟩ : ∃ k, k = strOf s := ⟨_, rfl⟩
  obtain ⟨bn, hbn⟩ : ∃ k, k = b.length := ⟨_, rfl⟩
  obtain ⟨ln, hln⟩ : ∃ k, k = l.length := ⟨_, rfl⟩
  obtain ⟨fn, hfn⟩ : ∃ k, k = f.length := ⟨_, rfl⟩
  rw [← hS0, ← hbn, ← hln, ← hfn] at hcs
  subst hcs
  obtain ⟨W1, hW1⟩ : ∃ W1, W1 = w.alloc (.cells #[.int .i64 k, .int .i64 n, .string S0, .slice ba bn bc, .slice fa fn fc, .slice la ln lc] 27) := ⟨_, rfl⟩
  have hst1 : Step [] id id w W1 := by rw [hW1]; exact Step.alloc _
  have hV : W1.heap[w.heap.size]? = some (.cells #[.int .i64 k, .int .i64 n, .string S0, .slice ba bn bc, .slice fa fn fc, .slice la ln lc] 27 (0, 0)) := by rw [hW1]; exact heap_alloc_new _ _
  have hx1 := hx.keep (P2 := P) (w' := W1) (fun _ h => h) (fun k hP hk => (hst1.keep k hk (by simp)).2)
  obtain ⟨v0, v1, v2, v3, v4, v5⟩ := cells_of6P hV
  have hVl : w.heap.size < W1.heap.size := lt_of_block hV
  have hVH := Lib.hid hV
  have hx1H := Lib.hid hx1
  have hW1H := Lib.hid hW1
  have hst1H := Lib.hid hst1
  have hS0H := Lib.hid hS0
  have hbnH := Lib.hid hbn
  have hlnH := Lib.hid hln
  have hfnH := Lib.hid hfn
  have hbH := Lib.hid hb
  have hfH := Lib.hid hf
  have hlH := Lib.hid hl
  clear hx hb hf hl hS0 hbn hln hfn hst1 hV hx1 hW1 hfc hlc hfz hlz hk1 hk2
  rcases hk with hk | hk
  · subst hk
    obtain ⟨he, hen⟩ := okV_num8 (d := d) (n := n) (s := s) (b := b) (f := f) (l := l) (k := 4) ⟨hn1, hn2⟩ (by simp)
    have hbc := Lib.hid (fun (W : World) (hW : Step [] id id W1 W) => ref_bare_n (hx1H.out.keep (P2 := P) (w' := W) (fun _ h => h) (fun k hP hk => (hW.keep k hk (by simp)).2)))
    have heH := Lib.hid he
    have henH := Lib.hid hen
    clear he hen
    go_enter Tryd.func35, Tryd.ntmps35
    go_wp2_with fail
    rw [← hW1H.out]
    refine wp_region_held_drew (S := fun w' => w'.cell? ⟨w.heap.size, 0, none⟩ = some (.int .i64 4) ∧ w'.cell? ⟨w.heap.size, 1, none⟩ = some (.int .i64 n) ∧ w'.cell? ⟨w.heap.size, 2, none⟩ = some (.string S0) ∧ w'.cell? ⟨w.heap.size, 3, none⟩ = some (.slice ba bn bc) ∧ w'.cell? ⟨w.heap.size, 4, none⟩ = some (.slice fa fn fc) ∧ w'.cell? ⟨w.heap.size, 5, none⟩ = some (.slice la ln lc)) (by kernel_rfl) ⟨v0, v1, v2, v3, v4, v5⟩ (fun hHeld => ?_)
    refine wpAnyH_take (i := 0) (v := ?_) rfl (by kernel_rfl) (by kernel_rfl) (by kernel_rfl) (fun _ _ _ h => h) (Or.inl ⟨by kernel_rfl, ?_⟩) hHeld ?_
    rotate_left
    · intro w' hSw; (try dsimp only at hSw); go_simp
      all_goals (with_reducible rfl)
    simp only [Act.put, List.getElem_toArray, List.getElem_cons_zero, List.getElem_cons_succ, List.setIfInBounds_toArray, List.set_cons_zero, List.set_cons_succ]
    refine wpAnyH_take (i := 1) (v := ?_) rfl (by kernel_rfl) (by kernel_rfl) (by kernel_rfl) (fun _ _ _ h => h) (Or.inl ⟨by kernel_rfl, ?_⟩) hHeld ?_
    rotate_left
    · intro w' hSw; (try dsimp only at hSw); go_simp
      all_goals (with_reducible rfl)
    simp only [Act.put, List.getElem_toArray, List.getElem_cons_zero, List.getElem_cons_succ, List.setIfInBounds_toArray, List.set_cons_zero, List.set_cons_succ]
    refine wpAnyH_take (i := 3) (v := ?_) rfl (by kernel_rfl) (by kernel_rfl) (by kernel_rfl) (fun _ _ _ h => h) (Or.inl ⟨by kernel_rfl, ?_⟩) hHeld ?_
    rotate_left
    · intro w' hSw; (try dsimp only at hSw); go_simp
      all_goals (with_reducible rfl)
    simp only [Act.put, List.getElem_toArray, List.getElem_cons_zero, List.getElem_cons_succ, List.setIfInBounds_toArray, List.set_cons_zero, List.set_cons_succ]
    refine wpAnyH_ready (rs := [2]) (by kernel_rfl) (by simp) ?_
    refine AllReadyH.cons (o := _) rfl (fun K hK => ?_) AllReadyH.nil
    go_simp
    refine (ref_num n 8 W1.drew (by omega) ⟨hn1, hn2⟩).mono ?_
    rintro e w2 ⟨nv, rfl, hr2, hs2, hnew2⟩
    obtain ⟨na, nn, nc, rfl, hnn⟩ := hr2.shapeN
    have hs2r : Step [] id id W1 w2 := Step.drew.tail hs2
    have hs2H := Lib.hid hs2r
    have hr2H := Lib.hid hr2
    have hnew2H := Lib.hid hnew2
    have hnnH := Lib.hid hnn
    clear hs2 hs2r hr2 hnew2 hnn
    go_wp2_with fail
    refine hK.out _ _ ?_ (fun hHeld => ?_)
    · exact cells_of6P (hs2H.out.at hVH.out (by simp))
    clear hK K
    refine wpAnyH_ready (rs := [4]) (by kernel_rfl) (by simp) ?_
    refine AllReadyH.cons (o := _) rfl (fun K hK => ?_) AllReadyH.nil
    go_simp
    refine (hbc.out w2 hs2H.out).mono ?_
    rintro e w3 ⟨rfl, hs3⟩
    have hs3H := Lib.hid hs3
    clear hs3
    go_wp2_with fail
    refine hK.out _ _ ?_ (fun hHeld => ?_)
    · exact cells_of6P ((hs2H.out.tail hs3H.out).at hVH.out (by simp))
    clear hK K
    refine wpAnyH_take (i := 5) (v := ?_) rfl (by kernel_rfl) (by kernel_rfl) (by kernel_rfl) (fun _ _ _ h => h) (Or.inl ⟨by kernel_rfl, ?_⟩) hHeld ?_
    rotate_left
    · intro w' hSw; (try dsimp only at hSw); go_simp
      all_goals (with_reducible rfl)
    simp only [Act.put, List.getElem_toArray, List.getElem_cons_zero, List.getElem_cons_succ, List.setIfInBounds_toArray, List.set_cons_zero, List.set_cons_succ]
    refine wpAnyH_take (i := 6) (v := ?_) rfl (by kernel_rfl) (by kernel_rfl) (by kernel_rfl) (fun _ _ _ h => h) (Or.inl ⟨by kernel_rfl, ?_⟩) hHeld ?_
    rotate_left
    · intro w' hSw; (try dsimp only at hSw); go_simp
      all_goals (with_reducible rfl)
    simp only [Act.put, List.getElem_toArray, List.getElem_cons_zero, List.getElem_cons_succ, List.setIfInBounds_toArray, List.set_cons_zero, List.set_cons_succ]
    refine wpAnyH_done (by kernel_rfl) ?_ _
    clear v0 v1 v2 v3 v4 v5 hHeld
    go_wp2_with fail
    go_ret2
    refine ⟨na, nn, nc, by rw [heH.out]; rfl, fun _ => ?_, (hst1H.out.tail hs2H.out).tail hs3H.out⟩
    rw [henH.out]
    have hr3 : Row w3 (.slice na nn nc) (layI 8 n) := ownsRow_step hr2H.out hs3H.out (fun k _ => by simp)
    exact ⟨hnnH.out, row_bin hr3 (fun k hk => .inr (by have := hnew2H.out k hk; have : W1.drew.heap.size = W1.heap.size := rfl; omega))⟩
  · subst hk
    obtain ⟨he, hen⟩ := okV_num8 (d := d) (n := n) (s := s) (b := b) (f := f) (l := l) (k := 11) ⟨hn1, hn2⟩ (by simp)
    have hbc := Lib.hid (fun (W : World) (hW : Step [] id id W1 W) => ref_bare_n (hx1H.out.keep (P2 := P) (w' := W) (fun _ h => h) (fun k hP hk => (hW.keep k hk (by simp)).2)))
    have heH := Lib.hid he
    have henH := Lib.hid hen
    clear he hen
    go_enter Tryd.func35, Tryd.ntmps35
    go_wp2_with fail
    rw [← hW1H.out]
    refine wp_region_held_drew (S := fun w' => w'.cell? ⟨w.heap.size, 0, none⟩ = some (.int .i64 11) ∧ w'.cell? ⟨w.heap.size, 1, none⟩ = some (.int .i64 n) ∧ w'.cell? ⟨w.heap.size, 2, none⟩ = some (.string S0) ∧ w'.cell? ⟨w.heap.size, 3, none⟩ = some (.slice ba bn bc) ∧ w'.cell? ⟨w.heap.size, 4, none⟩ = some (.slice fa fn fc) ∧ w'.cell? ⟨w.heap.size, 5, none⟩ = some (.slice la ln lc)) (by kernel_rfl) ⟨v0, v1, v2, v3, v4, v5⟩ (fun hHeld => ?_)
    refine wpAnyH_take (i := 0) (v := ?_) rfl (by kernel_rfl) (by kernel_rfl) (by kernel_rfl) (fun _ _ _ h => h) (Or.inl ⟨by kernel_rfl, ?_⟩) hHeld ?_
    rotate_left
    · intro w' hSw; (try dsimp only at hSw); go_simp
      all_goals (with_reducible rfl)
    simp only [Act.put, List.getElem_toArray, List.getElem_cons_zero, List.getElem_cons_succ, List.setIfInBounds_toArray, List.set_cons_zero, List.set_cons_succ]
    refine wpAnyH_take (i := 1) (v := ?_) rfl (by kernel_rfl) (by kernel_rfl) (by kernel_rfl) (fun _ _ _ h => h) (Or.inl ⟨by kernel_rfl, ?_⟩) hHeld ?_
    rotate_left
    · intro w' hSw; (try dsimp only at hSw); go_simp
      all_goals (with_reducible rfl)
    simp only [Act.put, List.getElem_toArray, List.getElem_cons_zero, List.getElem_cons_succ, List.setIfInBounds_toArray, List.set_cons_zero, List.set_cons_succ]
    refine wpAnyH_take (i := 3) (v := ?_) rfl (by kernel_rfl) (by kernel_rfl) (by kernel_rfl) (fun _ _ _ h => h) (Or.inl ⟨by kernel_rfl, ?_⟩) hHeld ?_
    rotate_left
    · intro w' hSw; (try dsimp only at hSw); go_simp
      all_goals (with_reducible rfl)
    simp only [Act.put, List.getElem_toArray, List.getElem_cons_zero, List.getElem_cons_succ, List.setIfInBounds_toArray, List.set_cons_zero, List.set_cons_succ]
    refine wpAnyH_ready (rs := [2]) (by kernel_rfl) (by simp) ?_
    refine AllReadyH.cons (o := _) rfl (fun K hK => ?_) AllReadyH.nil
    go_simp
    refine (ref_num n 8 W1.drew (by omega) ⟨hn1, hn2⟩).mono ?_
    rintro e w2 ⟨nv, rfl, hr2, hs2, hnew2⟩
    obtain ⟨na, nn, nc, rfl, hnn⟩ := hr2.shapeN
    have hs2r : Step [] id id W1 w2 := Step.drew.tail hs2
    have hs2H := Lib.hid hs2r
    have hr2H := Lib.hid hr2
    have hnew2H := Lib.hid hnew2
    have hnnH := Lib.hid hnn
    clear hs2 hs2r hr2 hnew2 hnn
    go_wp2_with fail
    refine hK.out _ _ ?_ (fun hHeld => ?_)
    · exact cells_of6P (hs2H.out.at hVH.out (by simp))
    clear hK K
    refine wpAnyH_ready (rs := [4]) (by kernel_rfl) (by simp) ?_
    refine AllReadyH.cons (o := _) rfl (fun K hK => ?_) AllReadyH.nil
    go_simp
    refine (hbc.out w2 hs2H.out).mono ?_
    rintro e w3 ⟨rfl, hs3⟩
    have hs3H := Lib.hid hs3
    clear hs3
    go_wp2_with fail
    refine hK.out _ _ ?_ (fun hHeld => ?_)
    · exact cells_of6P ((hs2H.out.tail hs3H.out).at hVH.out (by simp))
    clear hK K
    refine wpAnyH_take (i := 5) (v := ?_) rfl (by kernel_rfl) (by kernel_rfl) (by kernel_rfl) (fun _ _ _ h => h) (Or.inl ⟨by kernel_rfl, ?_⟩) hHeld ?_
    rotate_left
    · intro w' hSw; (try dsimp only at hSw); go_simp
      all_goals (with_reducible rfl)
    simp only [Act.put, List.getElem_toArray, List.getElem_cons_zero, List.getElem_cons_succ, List.setIfInBounds_toArray, List.set_cons_zero, List.set_cons_succ]
    refine wpAnyH_take (i := 6) (v := ?_) rfl (by kernel_rfl) (by kernel_rfl) (by kernel_rfl) (fun _ _ _ h => h) (Or.inl ⟨by kernel_rfl, ?_⟩) hHeld ?_
    rotate_left
    · intro w' hSw; (try dsimp only at hSw); go_simp
      all_goals (with_reducible rfl)
    simp only [Act.put, List.getElem_toArray, List.getElem_cons_zero, List.getElem_cons_succ, List.setIfInBounds_toArray, List.set_cons_zero, List.set_cons_succ]
    refine wpAnyH_done (by kernel_rfl) ?_ _
    clear v0 v1 v2 v3 v4 v5 hHeld
    go_wp2_with fail
    go_ret2
    refine ⟨na, nn, nc, by rw [heH.out]; rfl, fun _ => ?_, (hst1H.out.tail hs2H.out).tail hs3H.out⟩
    rw [henH.out]
    have hr3 : Row w3 (.slice na nn nc) (layI 8 n) := ownsRow_step hr2H.out hs3H.out (fun k _ => by simp)
    exact ⟨hnnH.out, row_bin hr3 (fun k hk => .inr (by have := hnew2H.out k hk; have : W1.drew.heap.size = W1.heap.size := rfl; omega))⟩
end Go.Proofs.YtbkmnhogfegmcaaDoor

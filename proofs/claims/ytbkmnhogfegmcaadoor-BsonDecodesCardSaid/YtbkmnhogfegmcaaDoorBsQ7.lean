/- The reference's reader: values: ids, Booleans, numbers. -/
import Derived.Test.YtbkmnhogfegmcaaDoorBsQ6
set_option linter.unusedVariables false
set_option linter.unusedSimpArgs false
namespace Go.Proofs.YtbkmnhogfegmcaaDoor
open Go.RowKit


set_option maxRecDepth 100000 in
set_option maxHeartbeats 4000000 in
theorem val_7 {w : World} {R B o c a : Nat} {b : Bs} (deep : Int) (rec_ : Bool → Nat → Res (List (Bs × Val))) (h : RdS w R B o c b a 0) :
    Calls Tryd.prog 59 #[.pointer (some ⟨R, 0, none⟩), .int .u8 7, .int .i64 deep] w (RVP w R B o c b (decV b rec_ 7 a)) := by
  have hd : decV b rec_ 7 a = if b.length - a < 12 then .bad 2 else .ok (.mk 9 0 [] ((b.drop a).take 12) [] []) (a + 12) := rfl
  rw [hd]
  clear hd
  have hle := h.le
  have hB := h.blt
  have hR := lt_of_block h.cell
  have hcap := h.cap
  have hsm := h.small
  have hne := h.ne
  obtain ⟨W0, hW0⟩ : ∃ W0, W0 = w.alloc (.cells #[.int .i64 0, .int .i64 0, (.string ⟨#[]⟩), (.slice none 0 0), (.slice none 0 0), (.slice none 0 0)] 27) := ⟨_, rfl⟩
  have hA0 : Step [] id id w W0 := by rw [hW0]; exact Step.alloc _
  have hV0 := Lib.hid (show W0.heap[w.heap.size]? = some (.cells #[.int .i64 0, .int .i64 0, (.string ⟨#[]⟩), (.slice none 0 0), (.slice none 0 0), (.slice none 0 0)] 27 (0, 0)) by rw [hW0]; exact heap_alloc_new w _)
  have h0 := Lib.hid (h.step hA0)
  have hA := Lib.hid (show Step [R] id id w W0 by rw [hW0]; exact Step.alloc _)
  have hWH := Lib.hid hW0
  clear h hA0 hW0
  by_cases hn : b.length - a < 12
  · rw [if_pos hn]
    go_enter Tryd.func59, Tryd.ntmps59
    go_wp2_with fail
    rw [← hWH.out]
    refine (need_no h0.out 12 (by omega)).mono ?_
    rintro e w1 ⟨rfl, hr, hst⟩
    have hrw1 := Lib.hid hr
    have hsw1 := Lib.hid ((Step.refl [R] id W0).tail hst)
    have hvb := hsw1.out.at hV0.out (by simp; omega)
    have p0 := cell_blk hvb (i := 0) rfl; have p1 := cell_blk hvb (i := 1) rfl; have p2 := cell_blk hvb (i := 2) rfl; have p3 := cell_blk hvb (i := 3) rfl; have p4 := cell_blk hvb (i := 4) rfl; have p5 := cell_blk hvb (i := 5) rfl; have pf := free_blk hvb
    have hvbH := Lib.hid hvb
    clear hr hst hvb
    go_wp2_with fail
    change bodyPost _ _ _ _ _ (set6 w1 w.heap.size (.int .i64 0) (.int .i64 0) (.string ⟨#[]⟩) (.slice none 0 0) (.slice none 0 0) (.slice none 0 0))
    refine bodyPost_ret (results_to rfl rfl (set6_heap hvbH.out)) rfl ?_
    (try rw [hres.out])
    exact rv_bad (hA.out.tail hsw1.out) hR hB hrw1.out
  rw [if_neg hn]
  have hna : a + 12 ≤ b.length := by omega
  go_enter Tryd.func59, Tryd.ntmps59
  go_wp2_with fail
  rw [← hWH.out]
  refine (need_ok h0.out 12 (by omega)).mono ?_
  rintro e w1 ⟨rfl, hr, hst⟩
  have hrw1 := Lib.hid hr
  have hsw1 := Lib.hid ((Step.refl [R] id W0).tail hst)
  clear hr hst
  obtain ⟨q, hq⟩ : ∃ q, q = a + 12 := ⟨_, rfl⟩
  have hw6 : IntKind.i64.wrap ((a : Int) + 12) = (q : Int) := by rw [hq]; push_cast; exact IntWalk.i64_in _ (by omega)
  have hw7 : IntKind.i64.wrap ((q : Int) - 12) = (a : Int) := by rw [show (q : Int) - 12 = (a : Int) by omega]; exact IntWalk.i64_in _ (by omega)
  have hqb : q ≤ b.length := by omega
  have hqH := Lib.hid hq
  clear hq
  have c0 := cell_blk hrw1.out.cell (i := 0) rfl; have c1 := cell_blk hrw1.out.cell (i := 1) rfl; have fR := free_blk hrw1.out.cell
  go_wp2_with fail
  obtain ⟨W3, hW3⟩ : ∃ W3, W3 = w1.setCell ⟨R, 1, none⟩ (.int .i64 (q : Int)) := ⟨_, rfl⟩
  rw [← hW3]
  have hr3 : RdS W3 R B o c b q 0 := by rw [hW3]; exact hrw1.out.moved q hqb
  have hst3 : Step [R] id id w1 W3 := by rw [hW3]; exact Step.set _ _ (by simp)
  clear c0 c1 fR
  have c0 := cell_blk hr3.cell (i := 0) rfl; have c1 := cell_blk hr3.cell (i := 1) rfl; have fR := free_blk hr3.cell
  have hvb3 := (hsw1.out.tail hst3).at hV0.out (by simp; omega)
  have hs3H := Lib.hid (hsw1.out.tail hst3)
  have hr3H := Lib.hid hr3
  have hvb3H := Lib.hid hvb3
  have hW3H := Lib.hid hW3
  obtain ⟨s, hs⟩ : ∃ s, s = (b.drop a).take 12 := ⟨_, rfl⟩
  have hsl : s.length = 12 := by rw [hs]; exact take_len (by omega)
  have hlie := Lib.hid (show Lie W3 ⟨B, o + a, none⟩ s by rw [hs]; exact hr3.lie a 12)
  have hp0 : (0 : Int) ≤ (a : Int) := by omega
  have hpq : (a : Int) ≤ (q : Int) := by have := hqH.out; omega
  have hqc : (q : Int) ≤ (c : Int) := by omega
  have hcp : ¬ c = a := by omega
  obtain ⟨i0, hi, hz0, hz1, hz2⟩ := info_split info_u8
  have hslH := Lib.hid hsl
  have hq := hqH.out
  have hres := Lib.hid (show (Res.ok (.mk 9 0 [] ((b.drop a).take 12) [] []) (a + 12) : Res Val) = .ok (.mk 9 0 [] s [] []) q by rw [hs, hq])
  have hsH := Lib.hid hs
  clear hst3 hr3 hvb3 hs hsl hW3 hq
  refine wp_region_held_drew (S := (fun w' => w'.cell? ⟨R, 0, none⟩ = some (.slice (some ⟨B, o, none⟩) b.length c) ∧ w'.cell? ⟨R, 1, none⟩ = some (.int .i64 (q : Int)))) (by kernel_rfl) ⟨c0, c1⟩ (fun hHeld => ?_)
  refine wpAnyH_take (i := 0) (v := ?_) rfl (by kernel_rfl) (by kernel_rfl) (by kernel_rfl) (fun _ _ _ h => h) (Or.inl ⟨by kernel_rfl, ?_⟩) hHeld ?_
  rotate_left
  · intro w' hSw; (try dsimp only at hSw); go_simp
    all_goals (with_reducible rfl)
  simp only [Act.put, List.getElem_toArray, List.getElem_cons_zero, List.getElem_cons_succ, List.setIfInBounds_toArray, List.set_cons_zero, List.set_cons_succ]
  refine wpAnyH_take (i := 1) (v := ?_) rfl (by kernel_rfl) (by kernel_rfl) (by kernel_rfl) (fun _ _ _ h => h) (Or.inl ⟨by kernel_rfl, ?_⟩) hHeld ?_
  rotate_left
  · intro w' hSw; (try dsimp only at hSw); go_simp
    all_goals (with_reducible rfl)
  simp only [Act.put, List.getElem_toArray, List.getElem_cons_zero, List.getElem_cons_succ, List.setIfInBounds_toArray, List.set_cons_zero, List.set_cons_succ]
  refine wpAnyH_take (i := 2) (v := ?_) rfl (by kernel_rfl) (by kernel_rfl) (by kernel_rfl) (fun _ _ _ h => h) (Or.inl ⟨by kernel_rfl, ?_⟩) hHeld ?_
  rotate_left
  · intro w' hSw; (try dsimp only at hSw); go_simp
    all_goals (with_reducible rfl)
  simp only [Act.put, List.getElem_toArray, List.getElem_cons_zero, List.getElem_cons_succ, List.setIfInBounds_toArray, List.set_cons_zero, List.set_cons_succ]
  refine wpAnyH_take (i := 3) (v := ?_) rfl (by kernel_rfl) (by kernel_rfl) (by kernel_rfl) (fun _ _ _ h => h) (Or.inl ⟨by kernel_rfl, ?_⟩) hHeld ?_
  rotate_left
  · intro w' hSw; (try dsimp only at hSw); go_simp
    all_goals (with_reducible rfl)
  simp only [Act.put, List.getElem_toArray, List.getElem_cons_zero, List.getElem_cons_succ, List.setIfInBounds_toArray, List.set_cons_zero, List.set_cons_succ]
  refine wpAnyH_take (i := 4) (v := ?_) rfl (by kernel_rfl) (by kernel_rfl) (by kernel_rfl) (fun _ _ _ h => h) (Or.inl ⟨by kernel_rfl, ?_⟩) hHeld ?_
  rotate_left
  · intro w' hSw; (try dsimp only at hSw); go_simp
    all_goals (with_reducible rfl)
  simp only [Act.put, List.getElem_toArray, List.getElem_cons_zero, List.getElem_cons_succ, List.setIfInBounds_toArray, List.set_cons_zero, List.set_cons_succ]
  refine wpAnyH_take (i := 5) (v := ?_) rfl (by kernel_rfl) (by kernel_rfl) (by kernel_rfl) (fun _ _ _ h => h) (Or.inl ⟨by kernel_rfl, ?_⟩) hHeld ?_
  rotate_left
  · intro w' hSw; (try dsimp only at hSw); go_simp
    all_goals (with_reducible rfl)
  simp only [Act.put, List.getElem_toArray, List.getElem_cons_zero, List.getElem_cons_succ, List.setIfInBounds_toArray, List.set_cons_zero, List.set_cons_succ]
  refine wpAnyH_take (i := 6) (v := ?_) rfl (by kernel_rfl) (by kernel_rfl) (by kernel_rfl) (fun _ _ _ h => h) (Or.inl ⟨by kernel_rfl, ?_⟩) hHeld ?_
  rotate_left
  · intro w' hSw; (try dsimp only at hSw); go_simp
    all_goals (with_reducible rfl)
  simp only [Act.put, List.getElem_toArray, List.getElem_cons_zero, List.getElem_cons_succ, List.setIfInBounds_toArray, List.set_cons_zero, List.set_cons_succ]
  refine wpAnyH_take (i := 7) (v := ?_) rfl (by kernel_rfl) (by kernel_rfl) (by kernel_rfl) (fun _ _ _ h => h) (Or.inl ⟨by kernel_rfl, ?_⟩) hHeld ?_
  rotate_left
  · intro w' hSw; (try dsimp only at hSw); go_simp
    all_goals (with_reducible rfl)
  simp only [Act.put, List.getElem_toArray, List.getElem_cons_zero, List.getElem_cons_succ, List.setIfInBounds_toArray, List.set_cons_zero, List.set_cons_succ]
  refine wpAnyH_take (i := 8) (v := ?_) rfl (by kernel_rfl) (by kernel_rfl) (by kernel_rfl) (fun _ _ _ h => h) (Or.inl ⟨by kernel_rfl, ?_⟩) hHeld ?_
  rotate_left
  · intro w' hSw; (try dsimp only at hSw); go_simp
    all_goals (with_reducible rfl)
  simp only [Act.put, List.getElem_toArray, List.getElem_cons_zero, List.getElem_cons_succ, List.setIfInBounds_toArray, List.set_cons_zero, List.set_cons_succ]
  refine wpAnyH_take (i := 9) (v := ?_) rfl (by kernel_rfl) (by kernel_rfl) (by kernel_rfl) (fun _ _ _ h => h) (Or.inl ⟨by kernel_rfl, ?_⟩) hHeld ?_
  rotate_left
  · intro w' hSw; (try dsimp only at hSw); go_simp
    all_goals (with_reducible rfl)
  simp only [Act.put, List.getElem_toArray, List.getElem_cons_zero, List.getElem_cons_succ, List.setIfInBounds_toArray, List.set_cons_zero, List.set_cons_succ]
  refine wpAnyH_take (i := 10) (v := ?_) rfl (by kernel_rfl) (by kernel_rfl) (by kernel_rfl) (fun _ _ _ h => h) (Or.inl ⟨by kernel_rfl, ?_⟩) hHeld ?_
  rotate_left
  · intro w' hSw; (try dsimp only at hSw); go_simp
    all_goals (with_reducible rfl)
  simp only [Act.put, List.getElem_toArray, List.getElem_cons_zero, List.getElem_cons_succ, List.setIfInBounds_toArray, List.set_cons_zero, List.set_cons_succ]
  refine wpAnyH_take (i := 11) (v := ?_) rfl (by kernel_rfl) (by kernel_rfl) (by kernel_rfl) (fun _ _ _ h => h) (Or.inl ⟨by kernel_rfl, ?_⟩) hHeld ?_
  rotate_left
  · intro w' hSw; (try dsimp only at hSw); go_simp
    all_goals (with_reducible rfl)
  simp only [Act.put, List.getElem_toArray, List.getElem_cons_zero, List.getElem_cons_succ, List.setIfInBounds_toArray, List.set_cons_zero, List.set_cons_succ]
  refine wpAnyH_take (i := 12) (v := ?_) rfl (by kernel_rfl) (by kernel_rfl) (by kernel_rfl) (fun _ _ _ h => h) (Or.inl ⟨by kernel_rfl, ?_⟩) hHeld ?_
  rotate_left
  · intro w' hSw; (try dsimp only at hSw); go_simp
    all_goals (with_reducible rfl)
  simp only [Act.put, List.getElem_toArray, List.getElem_cons_zero, List.getElem_cons_succ, List.setIfInBounds_toArray, List.set_cons_zero, List.set_cons_succ]
  refine wpAnyH_take (i := 13) (v := ?_) rfl (by kernel_rfl) (by kernel_rfl) (by kernel_rfl) (fun _ _ _ h => h) (Or.inl ⟨by kernel_rfl, ?_⟩) hHeld ?_
  rotate_left
  · intro w' hSw; (try dsimp only at hSw); go_simp
    all_goals (with_reducible rfl)
  simp only [Act.put, List.getElem_toArray, List.getElem_cons_zero, List.getElem_cons_succ, List.setIfInBounds_toArray, List.set_cons_zero, List.set_cons_succ]
  have hown0 : W3.drew.ownsRow 0 5 1 (.slice none 0 0) 0 [] := World.ownsRow_nil _ _ _ _
  have hq12 : q - a = 12 := by have := hqH.out; omega
  have hsrc : Src W3.drew 1 (.slice (some ⟨B, o + a, none⟩) (q - a) (c - a)) (q - a) (byteVals s) := by
    have hsl := hslH.out
    refine ⟨by rw [byteVals_length]; omega, .inr ⟨_, _, rfl, fun j u hu => ?_⟩⟩
    have hj : j < s.length := by
      rcases Nat.lt_or_ge j s.length with h | h
      · exact h
      · rw [List.getElem?_eq_none (by rw [byteVals_length]; exact h)] at hu; cases hu
    rw [byteVals_get hj] at hu
    cases hu
    exact hlie.out j hj
  refine wpAnyH_ready (rs := [14]) (by kernel_rfl) (by simp) ?_
  refine AllReadyH.cons (o := _) rfl (fun K hK => ?_) AllReadyH.nil
  refine wp_app (.const (.slice none 0 0)) (.tmp 68) 22 (by rfl) 5 i0 _ 1 1 Tryd.underlying22 hi hz0 hz1 hz2 rfl (by decide) (.slice none 0 0) 0 [] (by rfl) hown0 (.slice (some ⟨B, o + a, none⟩) (q - a) (c - a)) (q - a) (byteVals s) (by rfl) hsrc (byteVals_one s) (by omega) (by omega) ?_
  intro ad' c' w6 hown6 hgrow6 hnil6 hat6
  have e : 0 + (q - a) = 12 := by omega
  rw [e] at hown6 hat6 ⊢
  clear e
  have hrow6 : Row w6 (.slice ad' 12 c') s := by
    unfold Row
    rw [hslH.out]
    exact hown6
  have hst6 : Step [] id id W3 w6 := Step.drew.tail (.grown hgrow6 (fun k hk => by cases hk))
  have hVl := lt_of_block hvb3H.out
  have hb6 : BIn (fun k => w.heap.size < k) w6 (.slice ad' 12 c') s := rowBin hrow6 (fun k hk => by
    rcases hat6 with h | h
    · rw [h] at hk; cases hk
    · rw [h] at hk; cases hk; exact hVl)
  have hr6 := hr3H.out.step hst6
  have hvb6 := hst6.at hvb3H.out (by simp)
  have k0 := cell_blk hr6.cell (i := 0) rfl
  have k1 := cell_blk hr6.cell (i := 1) rfl
  have p0 := cell_blk hvb6 (i := 0) rfl; have p1 := cell_blk hvb6 (i := 1) rfl; have p2 := cell_blk hvb6 (i := 2) rfl; have p3 := cell_blk hvb6 (i := 3) rfl; have p4 := cell_blk hvb6 (i := 4) rfl; have p5 := cell_blk hvb6 (i := 5) rfl; have pf := free_blk hvb6
  have hst6H := Lib.hid hst6
  have hb6H := Lib.hid hb6
  have hr6H := Lib.hid hr6
  have hvb6H := Lib.hid hvb6
  clear hown6 hgrow6 hnil6 hat6 hrow6 hst6 hb6 hr6 hvb6 hsrc hown0 hi hz0 hz1 hz2
  refine hK.out _ _ ?_ (fun hHeld => ?_)
  · exact ⟨k0, k1⟩
  clear hK K
  refine wpAnyH_take (i := 15) (v := ?_) rfl (by kernel_rfl) (by kernel_rfl) (by kernel_rfl) (fun _ _ _ h => h) (Or.inl ⟨by kernel_rfl, ?_⟩) hHeld ?_
  rotate_left
  · intro w' hSw; (try dsimp only at hSw); go_simp
    all_goals (with_reducible rfl)
  simp only [Act.put, List.getElem_toArray, List.getElem_cons_zero, List.getElem_cons_succ, List.setIfInBounds_toArray, List.set_cons_zero, List.set_cons_succ]
  refine wpAnyH_ready (rs := [16]) (by kernel_rfl) (by simp) ?_
  refine AllReadyH.cons (o := _) rfl (fun K hK => ?_) AllReadyH.nil
  go_simp
  have hg7 : w6.grownBy (set6 w6 w.heap.size (.int .i64 9) (.int .i64 0) (.string ⟨#[]⟩) (.slice ad' 12 c') (.slice none 0 0) (.slice none 0 0)) (some w.heap.size) := set6_grown
  have hR6 := lt_of_block hr6H.out.cell
  have hk7 := hg7.block R hR6 (by simp; omega)
  change K _ (set6 w6 w.heap.size (.int .i64 9) (.int .i64 0) (.string ⟨#[]⟩) (.slice ad' 12 c') (.slice none 0 0) (.slice none 0 0))
  refine hK.out _ _ ?_ (fun hHeld => ?_)
  · exact ⟨(World.cell?_of_block (a := ⟨R, 0, none⟩) hk7).trans k0, (World.cell?_of_block (a := ⟨R, 1, none⟩) hk7).trans k1⟩
  clear hK K hg7 hk7
  refine wpAnyH_done (by kernel_rfl) ?_ _
  go_wp2_with fail
  refine bodyPost_ret (results_to rfl rfl (set6_heap hvb6H.out)) rfl ?_
  rw [hres.out]
  exact rv_ok ((hA.out.tail hs3H.out).tail (hst6H.out.mono (fun _ h => by cases h))) hR hB hr6H.out (VIs.bytes (by omega) hb6H.out (by have := hslH.out; omega))

set_option maxRecDepth 100000 in
set_option maxHeartbeats 4000000 in
theorem val_16 {w : World} {R B o c a : Nat} {b : Bs} (deep : Int) (rec_ : Bool → Nat → Res (List (Bs × Val))) (h : RdS w R B o c b a 0) :
    Calls Tryd.prog 59 #[.pointer (some ⟨R, 0, none⟩), .int .u8 16, .int .i64 deep] w (RVP w R B o c b (decV b rec_ 16 a)) := by
  have hd : decV b rec_ 16 a = if b.length - a < 4 then .bad 2 else .ok (.mk 3 (signed 4 (numAt b a 4)) [] [] [] []) (a + 4) := rfl
  rw [hd]
  clear hd
  have hle := h.le
  have hB := h.blt
  have hR := lt_of_block h.cell
  have hcap := h.cap
  have hsm := h.small
  have hne := h.ne
  obtain ⟨W0, hW0⟩ : ∃ W0, W0 = w.alloc (.cells #[.int .i64 0, .int .i64 0, (.string ⟨#[]⟩), (.slice none 0 0), (.slice none 0 0), (.slice none 0 0)] 27) := ⟨_, rfl⟩
  have hA0 : Step [] id id w W0 := by rw [hW0]; exact Step.alloc _
  have hV0 := Lib.hid (show W0.heap[w.heap.size]? = some (.cells #[.int .i64 0, .int .i64 0, (.string ⟨#[]⟩), (.slice none 0 0), (.slice none 0 0), (.slice none 0 0)] 27 (0, 0)) by rw [hW0]; exact heap_alloc_new w _)
  have h0 := Lib.hid (h.step hA0)
  have hA := Lib.hid (show Step [R] id id w W0 by rw [hW0]; exact Step.alloc _)
  have hWH := Lib.hid hW0
  clear h hA0 hW0
  by_cases hn : b.length - a < 4
  · rw [if_pos hn]
    go_enter Tryd.func59, Tryd.ntmps59
    go_wp2_with fail
    rw [← hWH.out]
    refine (need_no h0.out 4 (by omega)).mono ?_
    rintro e w1 ⟨rfl, hr, hst⟩
    have hrw1 := Lib.hid hr
    have hsw1 := Lib.hid ((Step.refl [R] id W0).tail hst)
    have hvb := hsw1.out.at hV0.out (by simp; omega)
    have p0 := cell_blk hvb (i := 0) rfl; have p1 := cell_blk hvb (i := 1) rfl; have p2 := cell_blk hvb (i := 2) rfl; have p3 := cell_blk hvb (i := 3) rfl; have p4 := cell_blk hvb (i := 4) rfl; have p5 := cell_blk hvb (i := 5) rfl; have pf := free_blk hvb
    have hvbH := Lib.hid hvb
    clear hr hst hvb
    go_wp2_with fail
    change bodyPost _ _ _ _ _ (set6 w1 w.heap.size (.int .i64 0) (.int .i64 0) (.string ⟨#[]⟩) (.slice none 0 0) (.slice none 0 0) (.slice none 0 0))
    refine bodyPost_ret (results_to rfl rfl (set6_heap hvbH.out)) rfl ?_
    (try rw [hres.out])
    exact rv_bad (hA.out.tail hsw1.out) hR hB hrw1.out
  rw [if_neg hn]
  have hna : a + 4 ≤ b.length := by omega
  have hlt4 := numAt_lt4 hna
  obtain ⟨N, hN⟩ : ∃ N, signed 4 (numAt b a 4) = N := ⟨_, rfl⟩
  rw [hN]
  obtain ⟨M, hM⟩ : ∃ M, M = numAt b a 4 := ⟨_, rfl⟩
  rw [← hM] at hlt4
  have hcv : wrap64 (wrap32 (M : Int)) = N := by rw [hM, ← hN]; exact signed_conv _ (by rw [← hM]; exact hlt4)
  have hu2 : IntKind.u32.wrap (M : Int) = M := by simp [IntKind.wrap, IntKind.signed, IntKind.bits]; omega
  have hcv2 : IntKind.i64.wrap (IntKind.i32.wrap (M : Int)) = N := by
    rw [IntWalk.i32_left, IntWalk.i64_left]; exact hcv
  have hMH := Lib.hid hM
  have hrg := signed4_range _ (by rw [hM] at hlt4; exact hlt4)
  rw [hN] at hrg
  clear hN hM
  go_enter Tryd.func59, Tryd.ntmps59
  go_wp2_with fail
  rw [← hWH.out]
  refine (need_ok h0.out 4 (by omega)).mono ?_
  rintro e w1 ⟨rfl, hr, hst⟩
  have hrw1 := Lib.hid hr
  have hsw1 := Lib.hid ((Step.refl [R] id W0).tail hst)
  clear hr hst
  obtain ⟨q, hq⟩ : ∃ q, q = a + 4 := ⟨_, rfl⟩
  have hw6 : IntKind.i64.wrap ((a : Int) + 4) = (q : Int) := by rw [hq]; push_cast; exact IntWalk.i64_in _ (by omega)
  have hw7 : IntKind.i64.wrap ((q : Int) - 4) = (a : Int) := by rw [show (q : Int) - 4 = (a : Int) by omega]; exact IntWalk.i64_in _ (by omega)
  have hqb : q ≤ b.length := by omega
  have hqH := Lib.hid hq
  clear hq
  have c0 := cell_blk hrw1.out.cell (i := 0) rfl; have c1 := cell_blk hrw1.out.cell (i := 1) rfl; have fR := free_blk hrw1.out.cell
  go_wp2_with fail
  obtain ⟨W3, hW3⟩ : ∃ W3, W3 = w1.setCell ⟨R, 1, none⟩ (.int .i64 (q : Int)) := ⟨_, rfl⟩
  rw [← hW3]
  have hr3 : RdS W3 R B o c b q 0 := by rw [hW3]; exact hrw1.out.moved q hqb
  have hst3 : Step [R] id id w1 W3 := by rw [hW3]; exact Step.set _ _ (by simp)
  clear c0 c1 fR
  have c0 := cell_blk hr3.cell (i := 0) rfl; have c1 := cell_blk hr3.cell (i := 1) rfl; have fR := free_blk hr3.cell
  have hvb3 := (hsw1.out.tail hst3).at hV0.out (by simp; omega)
  have hs3H := Lib.hid (hsw1.out.tail hst3)
  have hr3H := Lib.hid hr3
  have hvb3H := Lib.hid hvb3
  have hW3H := Lib.hid hW3
  have hgt := ref_get (w := W3.drew) (B := B) (o := o) (c := c) (a := a) (b := b) 4 (fun i hi => hr3.bytes i hi) hsm hna (by omega)
  rw [← hMH.out] at hgt
  have hgtH := Lib.hid hgt
  have hq := hqH.out
  have p0 := cell_blk hvb3 (i := 0) rfl; have p1 := cell_blk hvb3 (i := 1) rfl; have p2 := cell_blk hvb3 (i := 2) rfl; have p3 := cell_blk hvb3 (i := 3) rfl; have p4 := cell_blk hvb3 (i := 4) rfl; have p5 := cell_blk hvb3 (i := 5) rfl; have pf := free_blk hvb3
  have hvl3 := lt_of_block hvb3
  clear hst3 hr3 hvb3 hW3 hq hgt
  refine wp_region_held_drew (S := (fun w' => w'.cell? ⟨R, 0, none⟩ = some (.slice (some ⟨B, o, none⟩) b.length c) ∧ w'.cell? ⟨R, 1, none⟩ = some (.int .i64 (q : Int)))) (by kernel_rfl) ⟨c0, c1⟩ (fun hHeld => ?_)
  refine wpAnyH_take (i := 0) (v := ?_) rfl (by kernel_rfl) (by kernel_rfl) (by kernel_rfl) (fun _ _ _ h => h) (Or.inl ⟨by kernel_rfl, ?_⟩) hHeld ?_
  rotate_left
  · intro w' hSw; (try dsimp only at hSw); go_simp
    all_goals (with_reducible rfl)
  simp only [Act.put, List.getElem_toArray, List.getElem_cons_zero, List.getElem_cons_succ, List.setIfInBounds_toArray, List.set_cons_zero, List.set_cons_succ]
  refine wpAnyH_take (i := 1) (v := ?_) rfl (by kernel_rfl) (by kernel_rfl) (by kernel_rfl) (fun _ _ _ h => h) (Or.inl ⟨by kernel_rfl, ?_⟩) hHeld ?_
  rotate_left
  · intro w' hSw; (try dsimp only at hSw); go_simp
    all_goals (with_reducible rfl)
  simp only [Act.put, List.getElem_toArray, List.getElem_cons_zero, List.getElem_cons_succ, List.setIfInBounds_toArray, List.set_cons_zero, List.set_cons_succ]
  refine wpAnyH_take (i := 2) (v := ?_) rfl (by kernel_rfl) (by kernel_rfl) (by kernel_rfl) (fun _ _ _ h => h) (Or.inl ⟨by kernel_rfl, ?_⟩) hHeld ?_
  rotate_left
  · intro w' hSw; (try dsimp only at hSw); go_simp
    all_goals (with_reducible rfl)
  simp only [Act.put, List.getElem_toArray, List.getElem_cons_zero, List.getElem_cons_succ, List.setIfInBounds_toArray, List.set_cons_zero, List.set_cons_succ]
  refine wpAnyH_take (i := 3) (v := ?_) rfl (by kernel_rfl) (by kernel_rfl) (by kernel_rfl) (fun _ _ _ h => h) (Or.inl ⟨by kernel_rfl, ?_⟩) hHeld ?_
  rotate_left
  · intro w' hSw; (try dsimp only at hSw); go_simp
    all_goals (with_reducible rfl)
  simp only [Act.put, List.getElem_toArray, List.getElem_cons_zero, List.getElem_cons_succ, List.setIfInBounds_toArray, List.set_cons_zero, List.set_cons_succ]
  refine wpAnyH_take (i := 4) (v := ?_) rfl (by kernel_rfl) (by kernel_rfl) (by kernel_rfl) (fun _ _ _ h => h) (Or.inl ⟨by kernel_rfl, ?_⟩) hHeld ?_
  rotate_left
  · intro w' hSw; (try dsimp only at hSw); go_simp
    all_goals (with_reducible rfl)
  simp only [Act.put, List.getElem_toArray, List.getElem_cons_zero, List.getElem_cons_succ, List.setIfInBounds_toArray, List.set_cons_zero, List.set_cons_succ]
  refine wpAnyH_take (i := 5) (v := ?_) rfl (by kernel_rfl) (by kernel_rfl) (by kernel_rfl) (fun _ _ _ h => h) (Or.inl ⟨by kernel_rfl, ?_⟩) hHeld ?_
  rotate_left
  · intro w' hSw; (try dsimp only at hSw); go_simp
    all_goals (with_reducible rfl)
  simp only [Act.put, List.getElem_toArray, List.getElem_cons_zero, List.getElem_cons_succ, List.setIfInBounds_toArray, List.set_cons_zero, List.set_cons_succ]
  refine wpAnyH_take (i := 6) (v := ?_) rfl (by kernel_rfl) (by kernel_rfl) (by kernel_rfl) (fun _ _ _ h => h) (Or.inl ⟨by kernel_rfl, ?_⟩) hHeld ?_
  rotate_left
  · intro w' hSw; (try dsimp only at hSw); go_simp
    all_goals (with_reducible rfl)
  simp only [Act.put, List.getElem_toArray, List.getElem_cons_zero, List.getElem_cons_succ, List.setIfInBounds_toArray, List.set_cons_zero, List.set_cons_succ]
  refine wpAnyH_take (i := 7) (v := ?_) rfl (by kernel_rfl) (by kernel_rfl) (by kernel_rfl) (fun _ _ _ h => h) (Or.inl ⟨by kernel_rfl, ?_⟩) hHeld ?_
  rotate_left
  · intro w' hSw; (try dsimp only at hSw); go_simp
    all_goals (with_reducible rfl)
  simp only [Act.put, List.getElem_toArray, List.getElem_cons_zero, List.getElem_cons_succ, List.setIfInBounds_toArray, List.set_cons_zero, List.set_cons_succ]
  refine wpAnyH_take (i := 8) (v := ?_) rfl (by kernel_rfl) (by kernel_rfl) (by kernel_rfl) (fun _ _ _ h => h) (Or.inl ⟨by kernel_rfl, ?_⟩) hHeld ?_
  rotate_left
  · intro w' hSw; (try dsimp only at hSw); go_simp
    all_goals (with_reducible rfl)
  simp only [Act.put, List.getElem_toArray, List.getElem_cons_zero, List.getElem_cons_succ, List.setIfInBounds_toArray, List.set_cons_zero, List.set_cons_succ]
  refine wpAnyH_ready (rs := [9]) (by kernel_rfl) (by simp) ?_
  refine AllReadyH.cons (o := _) rfl (fun K hK => ?_) AllReadyH.nil
  go_simp
  refine hgtH.out.mono ?_
  rintro e w' ⟨rfl, rfl⟩
  go_wp2_with fail
  refine hK.out _ _ ?_ (fun hHeld => ?_)
  · exact ⟨c0, c1⟩
  clear hK K c0 c1 fR p0 p1 p2 p3 p4 p5 pf
  obtain ⟨W4, hW4⟩ : ∃ W4, W4 = W3.drew := ⟨_, rfl⟩
  have hst4 : Step [] id id W3 W4 := by rw [hW4]; exact Step.drew
  rw [← hW4] at hHeld ⊢
  have hr4 := hr3H.out.step hst4
  have hvb4 := hst4.at hvb3H.out (by simp)
  have hvl4 := lt_of_block hvb4
  have c0 := cell_blk hr4.cell (i := 0) rfl; have c1 := cell_blk hr4.cell (i := 1) rfl; have fR := free_blk hr4.cell
  have p0 := cell_blk hvb4 (i := 0) rfl; have p1 := cell_blk hvb4 (i := 1) rfl; have p2 := cell_blk hvb4 (i := 2) rfl; have p3 := cell_blk hvb4 (i := 3) rfl; have p4 := cell_blk hvb4 (i := 4) rfl; have p5 := cell_blk hvb4 (i := 5) rfl; have pf := free_blk hvb4
  have hr4H := Lib.hid hr4
  have hvb4H := Lib.hid hvb4
  have hs4H := Lib.hid (hs3H.out.tail (hst4.mono (fun _ h => by cases h)))
  clear hW4 hst4 hr4 hvb4
  refine wpAnyH_take (i := 10) (v := ?_) rfl (by kernel_rfl) (by kernel_rfl) (by kernel_rfl) (fun _ _ _ h => h) (Or.inl ⟨by kernel_rfl, ?_⟩) hHeld ?_
  rotate_left
  · intro w' hSw; (try dsimp only at hSw); go_simp
    all_goals (with_reducible rfl)
  simp only [Act.put, List.getElem_toArray, List.getElem_cons_zero, List.getElem_cons_succ, List.setIfInBounds_toArray, List.set_cons_zero, List.set_cons_succ]
  refine wpAnyH_take (i := 11) (v := ?_) rfl (by kernel_rfl) (by kernel_rfl) (by kernel_rfl) (fun _ _ _ h => h) (Or.inl ⟨by kernel_rfl, ?_⟩) hHeld ?_
  rotate_left
  · intro w' hSw; (try dsimp only at hSw); go_simp
    all_goals (with_reducible rfl)
  simp only [Act.put, List.getElem_toArray, List.getElem_cons_zero, List.getElem_cons_succ, List.setIfInBounds_toArray, List.set_cons_zero, List.set_cons_succ]
  refine wpAnyH_take (i := 12) (v := ?_) rfl (by kernel_rfl) (by kernel_rfl) (by kernel_rfl) (fun _ _ _ h => h) (Or.inl ⟨by kernel_rfl, ?_⟩) hHeld ?_
  rotate_left
  · intro w' hSw; (try dsimp only at hSw); go_simp
    all_goals (with_reducible rfl)
  simp only [Act.put, List.getElem_toArray, List.getElem_cons_zero, List.getElem_cons_succ, List.setIfInBounds_toArray, List.set_cons_zero, List.set_cons_succ]
  refine wpAnyH_take (i := 13) (v := ?_) rfl (by kernel_rfl) (by kernel_rfl) (by kernel_rfl) (fun _ _ _ h => h) (Or.inl ⟨by kernel_rfl, ?_⟩) hHeld ?_
  rotate_left
  · intro w' hSw; (try dsimp only at hSw); go_simp
    all_goals (with_reducible rfl)
  simp only [Act.put, List.getElem_toArray, List.getElem_cons_zero, List.getElem_cons_succ, List.setIfInBounds_toArray, List.set_cons_zero, List.set_cons_succ]
  refine wpAnyH_ready (rs := [14]) (by kernel_rfl) (by simp) ?_
  refine AllReadyH.cons (o := _) rfl (fun K hK => ?_) AllReadyH.nil
  go_simp
  have hg7 : W4.grownBy (set6 W4 w.heap.size (.int .i64 3) (.int .i64 N) (.string ⟨#[]⟩) (.slice none 0 0) (.slice none 0 0) (.slice none 0 0)) (some w.heap.size) := set6_grown
  have hk7 := hg7.block R (lt_of_block hr4H.out.cell) (by simp; omega)
  change K _ (set6 W4 w.heap.size (.int .i64 3) (.int .i64 N) (.string ⟨#[]⟩) (.slice none 0 0) (.slice none 0 0) (.slice none 0 0))
  refine hK.out _ _ ?_ (fun hHeld => ?_)
  · exact ⟨(World.cell?_of_block (a := ⟨R, 0, none⟩) hk7).trans c0, (World.cell?_of_block (a := ⟨R, 1, none⟩) hk7).trans c1⟩
  clear hK K hg7 hk7
  refine wpAnyH_done (by kernel_rfl) ?_ _
  go_wp2_with fail
  change bodyPost _ _ _ _ _ (set6 W4 w.heap.size (.int .i64 3) (.int .i64 N) (.string ⟨#[]⟩) (.slice none 0 0) (.slice none 0 0) (.slice none 0 0))
  refine bodyPost_ret (results_to rfl rfl (set6_heap hvb4H.out)) rfl ?_
  rw [← hqH.out]
  exact rv_ok (hA.out.tail hs4H.out) hR hB hr4H.out (VIs.flat [] (by omega) (by omega) (by simp))
set_option maxRecDepth 100000 in
set_option maxHeartbeats 4000000 in
theorem val_9 {w : World} {R B o c a : Nat} {b : Bs} (deep : Int) (rec_ : Bool → Nat → Res (List (Bs × Val))) (h : RdS w R B o c b a 0) :
    Calls Tryd.prog 59 #[.pointer (some ⟨R, 0, none⟩), .int .u8 9, .int .i64 deep] w (RVP w R B o c b (decV b rec_ 9 a)) := by
  have hd : decV b rec_ 9 a = if b.length - a < 8 then .bad 2 else .ok (.mk 11 (signed 8 (numAt b a 8)) [] [] [] []) (a + 8) := rfl
  rw [hd]
  clear hd
  have hle := h.le
  have hB := h.blt
  have hR := lt_of_block h.cell
  have hcap := h.cap
  have hsm := h.small
  have hne := h.ne
  obtain ⟨W0, hW0⟩ : ∃ W0, W0 = w.alloc (.cells #[.int .i64 0, .int .i64 0, (.string ⟨#[]⟩), (.slice none 0 0), (.slice none 0 0), (.slice none 0 0)] 27) := ⟨_, rfl⟩
  have hA0 : Step [] id id w W0 := by rw [hW0]; exact Step.alloc _
  have hV0 := Lib.hid (show W0.heap[w.heap.size]? = some (.cells #[.int .i64 0, .int .i64 0, (.string ⟨#[]⟩), (.slice none 0 0), (.slice none 0 0), (.slice none 0 0)] 27 (0, 0)) by rw [hW0]; exact heap_alloc_new w _)
  have h0 := Lib.hid (h.step hA0)
  have hA := Lib.hid (show Step [R] id id w W0 by rw [hW0]; exact Step.alloc _)
  have hWH := Lib.hid hW0
  clear h hA0 hW0
  by_cases hn : b.length - a < 8
  · rw [if_pos hn]
    go_enter Tryd.func59, Tryd.ntmps59
    go_wp2_with fail
    rw [← hWH.out]
    refine (need_no h0.out 8 (by omega)).mono ?_
    rintro e w1 ⟨rfl, hr, hst⟩
    have hrw1 := Lib.hid hr
    have hsw1 := Lib.hid ((Step.refl [R] id W0).tail hst)
    have hvb := hsw1.out.at hV0.out (by simp; omega)
    have p0 := cell_blk hvb (i := 0) rfl; have p1 := cell_blk hvb (i := 1) rfl; have p2 := cell_blk hvb (i := 2) rfl; have p3 := cell_blk hvb (i := 3) rfl; have p4 := cell_blk hvb (i := 4) rfl; have p5 := cell_blk hvb (i := 5) rfl; have pf := free_blk hvb
    have hvbH := Lib.hid hvb
    clear hr hst hvb
    go_wp2_with fail
    change bodyPost _ _ _ _ _ (set6 w1 w.heap.size (.int .i64 0) (.int .i64 0) (.string ⟨#[]⟩) (.slice none 0 0) (.slice none 0 0) (.slice none 0 0))
    refine bodyPost_ret (results_to rfl rfl (set6_heap hvbH.out)) rfl ?_
    (try rw [hres.out])
    exact rv_bad (hA.out.tail hsw1.out) hR hB hrw1.out
  rw [if_neg hn]
  have hna : a + 8 ≤ b.length := by omega
  have hlt8 := numAt_lt8 hna
  obtain ⟨M, hM⟩ : ∃ M, M = numAt b a 8 := ⟨_, rfl⟩
  rw [← hM] at hlt8 ⊢
  obtain ⟨N, hN⟩ : ∃ N, signed 8 M = N := ⟨_, rfl⟩
  have hcv2 : IntKind.i64.wrap (M : Int) = N := by
    rw [IntWalk.i64_left, ← hN]; exact conv64 M hlt8
  have hrg := signed8_range M hlt8
  rw [hN] at hrg ⊢
  have hMH := Lib.hid hM
  clear hN hM
  go_enter Tryd.func59, Tryd.ntmps59
  go_wp2_with fail
  rw [← hWH.out]
  refine (need_ok h0.out 8 (by omega)).mono ?_
  rintro e w1 ⟨rfl, hr, hst⟩
  have hrw1 := Lib.hid hr
  have hsw1 := Lib.hid ((Step.refl [R] id W0).tail hst)
  clear hr hst
  obtain ⟨q, hq⟩ : ∃ q, q = a + 8 := ⟨_, rfl⟩
  have hw6 : IntKind.i64.wrap ((a : Int) + 8) = (q : Int) := by rw [hq]; push_cast; exact IntWalk.i64_in _ (by omega)
  have hw7 : IntKind.i64.wrap ((q : Int) - 8) = (a : Int) := by rw [show (q : Int) - 8 = (a : Int) by omega]; exact IntWalk.i64_in _ (by omega)
  have hqb : q ≤ b.length := by omega
  have hqH := Lib.hid hq
  clear hq
  have c0 := cell_blk hrw1.out.cell (i := 0) rfl; have c1 := cell_blk hrw1.out.cell (i := 1) rfl; have fR := free_blk hrw1.out.cell
  go_wp2_with fail
  obtain ⟨W3, hW3⟩ : ∃ W3, W3 = w1.setCell ⟨R, 1, none⟩ (.int .i64 (q : Int)) := ⟨_, rfl⟩
  rw [← hW3]
  have hr3 : RdS W3 R B o c b q 0 := by rw [hW3]; exact hrw1.out.moved q hqb
  have hst3 : Step [R] id id w1 W3 := by rw [hW3]; exact Step.set _ _ (by simp)
  clear c0 c1 fR
  have c0 := cell_blk hr3.cell (i := 0) rfl; have c1 := cell_blk hr3.cell (i := 1) rfl; have fR := free_blk hr3.cell
  have hvb3 := (hsw1.out.tail hst3).at hV0.out (by simp; omega)
  have hs3H := Lib.hid (hsw1.out.tail hst3)
  have hr3H := Lib.hid hr3
  have hvb3H := Lib.hid hvb3
  have hW3H := Lib.hid hW3
  have hgt := fun (W : World) (hW : Step [] id id W3 W) => ref_get (w := W) (B := B) (o := o) (c := c) (a := a) (b := b) 8 (fun i hi => (hr3H.out.step hW).bytes i hi) hsm hna (by omega)
  rw [← hMH.out] at hgt
  have hgtH := Lib.hid hgt
  clear hst3 hr3 hvb3 hW3 hgt
  refine wp_region_held_drew (S := (fun w' => w'.cell? ⟨R, 0, none⟩ = some (.slice (some ⟨B, o, none⟩) b.length c) ∧ w'.cell? ⟨R, 1, none⟩ = some (.int .i64 (q : Int)))) (by kernel_rfl) ⟨c0, c1⟩ (fun hHeld => ?_)
  refine wpAnyH_take (i := 0) (v := ?_) rfl (by kernel_rfl) (by kernel_rfl) (by kernel_rfl) (fun _ _ _ h => h) (Or.inl ⟨by kernel_rfl, ?_⟩) hHeld ?_
  rotate_left
  · intro w' hSw; (try dsimp only at hSw); go_simp
    all_goals (with_reducible rfl)
  simp only [Act.put, List.getElem_toArray, List.getElem_cons_zero, List.getElem_cons_succ, List.setIfInBounds_toArray, List.set_cons_zero, List.set_cons_succ]
  refine wpAnyH_take (i := 1) (v := ?_) rfl (by kernel_rfl) (by kernel_rfl) (by kernel_rfl) (fun _ _ _ h => h) (Or.inl ⟨by kernel_rfl, ?_⟩) hHeld ?_
  rotate_left
  · intro w' hSw; (try dsimp only at hSw); go_simp
    all_goals (with_reducible rfl)
  simp only [Act.put, List.getElem_toArray, List.getElem_cons_zero, List.getElem_cons_succ, List.setIfInBounds_toArray, List.set_cons_zero, List.set_cons_succ]
  refine wpAnyH_take (i := 2) (v := ?_) rfl (by kernel_rfl) (by kernel_rfl) (by kernel_rfl) (fun _ _ _ h => h) (Or.inl ⟨by kernel_rfl, ?_⟩) hHeld ?_
  rotate_left
  · intro w' hSw; (try dsimp only at hSw); go_simp
    all_goals (with_reducible rfl)
  simp only [Act.put, List.getElem_toArray, List.getElem_cons_zero, List.getElem_cons_succ, List.setIfInBounds_toArray, List.set_cons_zero, List.set_cons_succ]
  refine wpAnyH_take (i := 3) (v := ?_) rfl (by kernel_rfl) (by kernel_rfl) (by kernel_rfl) (fun _ _ _ h => h) (Or.inl ⟨by kernel_rfl, ?_⟩) hHeld ?_
  rotate_left
  · intro w' hSw; (try dsimp only at hSw); go_simp
    all_goals (with_reducible rfl)
  simp only [Act.put, List.getElem_toArray, List.getElem_cons_zero, List.getElem_cons_succ, List.setIfInBounds_toArray, List.set_cons_zero, List.set_cons_succ]
  refine wpAnyH_take (i := 4) (v := ?_) rfl (by kernel_rfl) (by kernel_rfl) (by kernel_rfl) (fun _ _ _ h => h) (Or.inl ⟨by kernel_rfl, ?_⟩) hHeld ?_
  rotate_left
  · intro w' hSw; (try dsimp only at hSw); go_simp
    all_goals (with_reducible rfl)
  simp only [Act.put, List.getElem_toArray, List.getElem_cons_zero, List.getElem_cons_succ, List.setIfInBounds_toArray, List.set_cons_zero, List.set_cons_succ]
  refine wpAnyH_take (i := 5) (v := ?_) rfl (by kernel_rfl) (by kernel_rfl) (by kernel_rfl) (fun _ _ _ h => h) (Or.inl ⟨by kernel_rfl, ?_⟩) hHeld ?_
  rotate_left
  · intro w' hSw; (try dsimp only at hSw); go_simp
    all_goals (with_reducible rfl)
  simp only [Act.put, List.getElem_toArray, List.getElem_cons_zero, List.getElem_cons_succ, List.setIfInBounds_toArray, List.set_cons_zero, List.set_cons_succ]
  refine wpAnyH_take (i := 6) (v := ?_) rfl (by kernel_rfl) (by kernel_rfl) (by kernel_rfl) (fun _ _ _ h => h) (Or.inl ⟨by kernel_rfl, ?_⟩) hHeld ?_
  rotate_left
  · intro w' hSw; (try dsimp only at hSw); go_simp
    all_goals (with_reducible rfl)
  simp only [Act.put, List.getElem_toArray, List.getElem_cons_zero, List.getElem_cons_succ, List.setIfInBounds_toArray, List.set_cons_zero, List.set_cons_succ]
  refine wpAnyH_take (i := 7) (v := ?_) rfl (by kernel_rfl) (by kernel_rfl) (by kernel_rfl) (fun _ _ _ h => h) (Or.inl ⟨by kernel_rfl, ?_⟩) hHeld ?_
  rotate_left
  · intro w' hSw; (try dsimp only at hSw); go_simp
    all_goals (with_reducible rfl)
  simp only [Act.put, List.getElem_toArray, List.getElem_cons_zero, List.getElem_cons_succ, List.setIfInBounds_toArray, List.set_cons_zero, List.set_cons_succ]
  refine wpAnyH_take (i := 8) (v := ?_) rfl (by kernel_rfl) (by kernel_rfl) (by kernel_rfl) (fun _ _ _ h => h) (Or.inl ⟨by kernel_rfl, ?_⟩) hHeld ?_
  rotate_left
  · intro w' hSw; (try dsimp only at hSw); go_simp
    all_goals (with_reducible rfl)
  simp only [Act.put, List.getElem_toArray, List.getElem_cons_zero, List.getElem_cons_succ, List.setIfInBounds_toArray, List.set_cons_zero, List.set_cons_succ]
  refine wpAnyH_ready (rs := [9, 12]) (by kernel_rfl) (by simp) ?_
  refine AllReadyH.cons (o := _) rfl (fun K hK => ?_) (AllReadyH.cons (o := _) rfl (fun K hK => ?_) AllReadyH.nil)
  · go_simp
    refine (hgtH.out _ Step.drew).mono ?_
    rintro e w' ⟨rfl, rfl⟩
    go_wp2_with fail
    refine hK.out _ _ ?_ (fun hHeld => ?_)
    · exact ⟨c0, c1⟩
    clear hK K
    refine wpAnyH_take (i := 10) (v := ?_) rfl (by kernel_rfl) (by kernel_rfl) (by kernel_rfl) (fun _ _ _ h => h) (Or.inl ⟨by kernel_rfl, ?_⟩) hHeld ?_
    rotate_left
    · intro w' hSw; (try dsimp only at hSw); go_simp
      all_goals (with_reducible rfl)
    simp only [Act.put, List.getElem_toArray, List.getElem_cons_zero, List.getElem_cons_succ, List.setIfInBounds_toArray, List.set_cons_zero, List.set_cons_succ]
    refine wpAnyH_take (i := 11) (v := ?_) rfl (by kernel_rfl) (by kernel_rfl) (by kernel_rfl) (fun _ _ _ h => h) (Or.inl ⟨by kernel_rfl, ?_⟩) hHeld ?_
    rotate_left
    · intro w' hSw; (try dsimp only at hSw); go_simp
      all_goals (with_reducible rfl)
    simp only [Act.put, List.getElem_toArray, List.getElem_cons_zero, List.getElem_cons_succ, List.setIfInBounds_toArray, List.set_cons_zero, List.set_cons_succ]
    refine wpAnyH_ready (rs := [12]) (by kernel_rfl) (by simp) ?_
    refine AllReadyH.cons (o := _) rfl (fun K hK => ?_) AllReadyH.nil
    go_simp
    refine hK.out _ _ ?_ (fun hHeld => ?_)
    · exact ⟨(World.cell?_of_block (w := W3.drew) (w' := W3.drew.alloc (.cells #[.int .i64 0, .int .i64 0, (.string ⟨#[]⟩), (.slice none 0 0), (.slice none 0 0), (.slice none 0 0)] 27)) (a := ⟨R, 0, none⟩) (Below.heap_alloc _ _ _ (lt_of_block hr3H.out.cell))).trans c0, (World.cell?_of_block (w := W3.drew) (w' := W3.drew.alloc (.cells #[.int .i64 0, .int .i64 0, (.string ⟨#[]⟩), (.slice none 0 0), (.slice none 0 0), (.slice none 0 0)] 27)) (a := ⟨R, 1, none⟩) (Below.heap_alloc _ _ _ (lt_of_block hr3H.out.cell))).trans c1⟩
    clear hK K
    obtain ⟨W5, hW5⟩ : ∃ W5, W5 = (W3.alloc (.cells #[.int .i64 0, .int .i64 0, (.string ⟨#[]⟩), (.slice none 0 0), (.slice none 0 0), (.slice none 0 0)] 27)).drew := ⟨_, rfl⟩
    have hst5 : Step [] id id W3 W5 := by rw [hW5]; exact (Step.alloc _).tail Step.drew
    have hN5 : W5.heap[W3.heap.size]? = some (.cells #[.int .i64 0, .int .i64 0, (.string ⟨#[]⟩), (.slice none 0 0), (.slice none 0 0), (.slice none 0 0)] 27 (0, 0)) := by rw [hW5]; exact heap_alloc_new W3 _
    rw [← hW5] at hHeld ⊢
    have hr5 := hr3H.out.step hst5
    have hvb5 := hst5.at hvb3H.out (by simp)
    clear c0 c1 fR
    have c0 := cell_blk hr5.cell (i := 0) rfl; have c1 := cell_blk hr5.cell (i := 1) rfl; have fR := free_blk hr5.cell
    have q0 := cell_blk hN5 (i := 0) rfl; have q1 := cell_blk hN5 (i := 1) rfl; have q2 := cell_blk hN5 (i := 2) rfl; have q3 := cell_blk hN5 (i := 3) rfl; have q4 := cell_blk hN5 (i := 4) rfl; have q5 := cell_blk hN5 (i := 5) rfl; have qf := free_blk hN5
    have hvl5 := lt_of_block hvb5
    have hnl5 := lt_of_block hN5
    have hrl5 := lt_of_block hr5.cell
    have hrl3 := lt_of_block hr3H.out.cell
    have hVl3 := lt_of_block hvb3H.out
    have hr5H := Lib.hid hr5
    have hvb5H := Lib.hid hvb5
    have hN5H := Lib.hid hN5
    have hs5H := Lib.hid (hs3H.out.tail (hst5.mono (fun _ h => by cases h)))
    clear hW5 hst5 hr5 hvb5 hN5
    refine wpAnyH_ready (rs := [13]) (by kernel_rfl) (by simp) ?_
    refine AllReadyH.cons (o := _) rfl (fun K hK => ?_) AllReadyH.nil
    go_simp
    change K _ (set6 W5 W3.heap.size (.int .i64 11) (.int .i64 N) (.string ⟨#[]⟩) (.slice none 0 0) (.slice none 0 0) (.slice none 0 0))
    obtain ⟨W6, hW6⟩ : ∃ W6, W6 = set6 W5 W3.heap.size (.int .i64 11) (.int .i64 N) (.string ⟨#[]⟩) (.slice none 0 0) (.slice none 0 0) (.slice none 0 0) := ⟨_, rfl⟩
    have hg6 : W5.grownBy W6 (some W3.heap.size) := by rw [hW6]; exact set6_grown
    have hN6 : W6.heap[W3.heap.size]? = some (.cells #[.int .i64 11, .int .i64 N, (.string ⟨#[]⟩), (.slice none 0 0), (.slice none 0 0), (.slice none 0 0)] 27 (0, 0)) := by rw [hW6]; exact set6_heap hN5H.out
    rw [← hW6]
    clear hW6
    have hRb6 := hg6.block R hrl5 (by simp; omega)
    have hvb6 := (hg6.block w.heap.size hvl5 (by simp; omega)).trans hvb5H.out
    refine hK.out _ _ ?_ (fun hHeld => ?_)
    · exact ⟨(World.cell?_of_block (a := ⟨R, 0, none⟩) hRb6).trans c0, (World.cell?_of_block (a := ⟨R, 1, none⟩) hRb6).trans c1⟩
    clear hK K
    refine wpAnyH_done (by kernel_rfl) ?_ _
    have hr6 : RdS W6 R B o c b q 0 := hr5H.out.off (T := [W3.heap.size]) (.grown hg6 (fun k hk => by cases hk; simp)) (by simp; omega) (by simp; have := hr3H.out.blt; omega)
    have hs6 : Step [R] id id W0 W6 := hs5H.out.tailNew (T2 := [W3.heap.size]) (.grown hg6 (fun k hk => by cases hk; simp)) (by have := lt_of_block hV0.out; have := hs3H.out.size; simp; omega)
    clear c0 c1 fR q0 q1 q2 q3 q4 q5 qf hHeld
    have p0 := cell_blk hvb6 (i := 0) rfl; have p1 := cell_blk hvb6 (i := 1) rfl; have p2 := cell_blk hvb6 (i := 2) rfl; have p3 := cell_blk hvb6 (i := 3) rfl; have p4 := cell_blk hvb6 (i := 4) rfl; have p5 := cell_blk hvb6 (i := 5) rfl; have pf := free_blk hvb6
    have q0 := cell_blk hN6 (i := 0) rfl; have q1 := cell_blk hN6 (i := 1) rfl; have q2 := cell_blk hN6 (i := 2) rfl; have q3 := cell_blk hN6 (i := 3) rfl; have q4 := cell_blk hN6 (i := 4) rfl; have q5 := cell_blk hN6 (i := 5) rfl; have qf := free_blk hN6
    have hvl6 := lt_of_block hvb6
    have hnl6 := lt_of_block hN6
    have hvn : ¬ w.heap.size = W3.heap.size := by omega
    have hnv : ¬ W3.heap.size = w.heap.size := by omega
    have hr6H := Lib.hid hr6
    have hs6H := Lib.hid hs6
    have hvb6H := Lib.hid hvb6
    have hN6H := Lib.hid hN6
    clear hr6 hs6 hvb6 hN6 hg6 hRb6
    go_wp2_with fail
    change bodyPost _ _ _ _ _ (set6 W6 w.heap.size (.int .i64 11) (.int .i64 N) (.string ⟨#[]⟩) (.slice none 0 0) (.slice none 0 0) (.slice none 0 0))
    refine bodyPost_ret (results_to rfl rfl (set6_heap hvb6H.out)) rfl ?_
    rw [← hqH.out]
    exact rv_ok (hA.out.tail hs6H.out) hR hB hr6H.out (VIs.flat [] (by omega) (by omega) (by simp))
  · go_simp
    refine hK.out _ _ ?_ (fun hHeld => ?_)
    · exact ⟨(World.cell?_of_block (w := W3.drew) (w' := W3.drew.alloc (.cells #[.int .i64 0, .int .i64 0, (.string ⟨#[]⟩), (.slice none 0 0), (.slice none 0 0), (.slice none 0 0)] 27)) (a := ⟨R, 0, none⟩) (Below.heap_alloc _ _ _ (lt_of_block hr3H.out.cell))).trans c0, (World.cell?_of_block (w := W3.drew) (w' := W3.drew.alloc (.cells #[.int .i64 0, .int .i64 0, (.string ⟨#[]⟩), (.slice none 0 0), (.slice none 0 0), (.slice none 0 0)] 27)) (a := ⟨R, 1, none⟩) (Below.heap_alloc _ _ _ (lt_of_block hr3H.out.cell))).trans c1⟩
    clear hK K
    refine wpAnyH_ready (rs := [9]) (by kernel_rfl) (by simp) ?_
    refine AllReadyH.cons (o := _) rfl (fun K hK => ?_) AllReadyH.nil
    go_simp
    refine (hgtH.out _ ((Step.alloc (.cells #[.int .i64 0, .int .i64 0, (.string ⟨#[]⟩), (.slice none 0 0), (.slice none 0 0), (.slice none 0 0)] 27)).tail Step.drew)).mono ?_
    rintro e w' ⟨rfl, rfl⟩
    go_wp2_with fail
    refine hK.out _ _ ?_ (fun hHeld => ?_)
    · exact hHeld
    clear hK K
    refine wpAnyH_take (i := 10) (v := ?_) rfl (by kernel_rfl) (by kernel_rfl) (by kernel_rfl) (fun _ _ _ h => h) (Or.inl ⟨by kernel_rfl, ?_⟩) hHeld ?_
    rotate_left
    · intro w' hSw; (try dsimp only at hSw); go_simp
      all_goals (with_reducible rfl)
    simp only [Act.put, List.getElem_toArray, List.getElem_cons_zero, List.getElem_cons_succ, List.setIfInBounds_toArray, List.set_cons_zero, List.set_cons_succ]
    refine wpAnyH_take (i := 11) (v := ?_) rfl (by kernel_rfl) (by kernel_rfl) (by kernel_rfl) (fun _ _ _ h => h) (Or.inl ⟨by kernel_rfl, ?_⟩) hHeld ?_
    rotate_left
    · intro w' hSw; (try dsimp only at hSw); go_simp
      all_goals (with_reducible rfl)
    simp only [Act.put, List.getElem_toArray, List.getElem_cons_zero, List.getElem_cons_succ, List.setIfInBounds_toArray, List.set_cons_zero, List.set_cons_succ]
    obtain ⟨W5, hW5⟩ : ∃ W5, W5 = (W3.alloc (.cells #[.int .i64 0, .int .i64 0, (.string ⟨#[]⟩), (.slice none 0 0), (.slice none 0 0), (.slice none 0 0)] 27)).drew := ⟨_, rfl⟩
    have hst5 : Step [] id id W3 W5 := by rw [hW5]; exact (Step.alloc _).tail Step.drew
    have hN5 : W5.heap[W3.heap.size]? = some (.cells #[.int .i64 0, .int .i64 0, (.string ⟨#[]⟩), (.slice none 0 0), (.slice none 0 0), (.slice none 0 0)] 27 (0, 0)) := by rw [hW5]; exact heap_alloc_new W3 _
    rw [← hW5] at hHeld ⊢
    have hr5 := hr3H.out.step hst5
    have hvb5 := hst5.at hvb3H.out (by simp)
    clear c0 c1 fR
    have c0 := cell_blk hr5.cell (i := 0) rfl; have c1 := cell_blk hr5.cell (i := 1) rfl; have fR := free_blk hr5.cell
    have q0 := cell_blk hN5 (i := 0) rfl; have q1 := cell_blk hN5 (i := 1) rfl; have q2 := cell_blk hN5 (i := 2) rfl; have q3 := cell_blk hN5 (i := 3) rfl; have q4 := cell_blk hN5 (i := 4) rfl; have q5 := cell_blk hN5 (i := 5) rfl; have qf := free_blk hN5
    have hvl5 := lt_of_block hvb5
    have hnl5 := lt_of_block hN5
    have hrl5 := lt_of_block hr5.cell
    have hrl3 := lt_of_block hr3H.out.cell
    have hVl3 := lt_of_block hvb3H.out
    have hr5H := Lib.hid hr5
    have hvb5H := Lib.hid hvb5
    have hN5H := Lib.hid hN5
    have hs5H := Lib.hid (hs3H.out.tail (hst5.mono (fun _ h => by cases h)))
    clear hW5 hst5 hr5 hvb5 hN5
    refine wpAnyH_ready (rs := [13]) (by kernel_rfl) (by simp) ?_
    refine AllReadyH.cons (o := _) rfl (fun K hK => ?_) AllReadyH.nil
    go_simp
    change K _ (set6 W5 W3.heap.size (.int .i64 11) (.int .i64 N) (.string ⟨#[]⟩) (.slice none 0 0) (.slice none 0 0) (.slice none 0 0))
    obtain ⟨W6, hW6⟩ : ∃ W6, W6 = set6 W5 W3.heap.size (.int .i64 11) (.int .i64 N) (.string ⟨#[]⟩) (.slice none 0 0) (.slice none 0 0) (.slice none 0 0) := ⟨_, rfl⟩
    have hg6 : W5.grownBy W6 (some W3.heap.size) := by rw [hW6]; exact set6_grown
    have hN6 : W6.heap[W3.heap.size]? = some (.cells #[.int .i64 11, .int .i64 N, (.string ⟨#[]⟩), (.slice none 0 0), (.slice none 0 0), (.slice none 0 0)] 27 (0, 0)) := by rw [hW6]; exact set6_heap hN5H.out
    rw [← hW6]
    clear hW6
    have hRb6 := hg6.block R hrl5 (by simp; omega)
    have hvb6 := (hg6.block w.heap.size hvl5 (by simp; omega)).trans hvb5H.out
    refine hK.out _ _ ?_ (fun hHeld => ?_)
    · exact ⟨(World.cell?_of_block (a := ⟨R, 0, none⟩) hRb6).trans c0, (World.cell?_of_block (a := ⟨R, 1, none⟩) hRb6).trans c1⟩
    clear hK K
    refine wpAnyH_done (by kernel_rfl) ?_ _
    have hr6 : RdS W6 R B o c b q 0 := hr5H.out.off (T := [W3.heap.size]) (.grown hg6 (fun k hk => by cases hk; simp)) (by simp; omega) (by simp; have := hr3H.out.blt; omega)
    have hs6 : Step [R] id id W0 W6 := hs5H.out.tailNew (T2 := [W3.heap.size]) (.grown hg6 (fun k hk => by cases hk; simp)) (by have := lt_of_block hV0.out; have := hs3H.out.size; simp; omega)
    clear c0 c1 fR q0 q1 q2 q3 q4 q5 qf hHeld
    have p0 := cell_blk hvb6 (i := 0) rfl; have p1 := cell_blk hvb6 (i := 1) rfl; have p2 := cell_blk hvb6 (i := 2) rfl; have p3 := cell_blk hvb6 (i := 3) rfl; have p4 := cell_blk hvb6 (i := 4) rfl; have p5 := cell_blk hvb6 (i := 5) rfl; have pf := free_blk hvb6
    have q0 := cell_blk hN6 (i := 0) rfl; have q1 := cell_blk hN6 (i := 1) rfl; have q2 := cell_blk hN6 (i := 2) rfl; have q3 := cell_blk hN6 (i := 3) rfl; have q4 := cell_blk hN6 (i := 4) rfl; have q5 := cell_blk hN6 (i := 5) rfl; have qf := free_blk hN6
    have hvl6 := lt_of_block hvb6
    have hnl6 := lt_of_block hN6
    have hvn : ¬ w.heap.size = W3.heap.size := by omega
    have hnv : ¬ W3.heap.size = w.heap.size := by omega
    have hr6H := Lib.hid hr6
    have hs6H := Lib.hid hs6
    have hvb6H := Lib.hid hvb6
    have hN6H := Lib.hid hN6
    clear hr6 hs6 hvb6 hN6 hg6 hRb6
    go_wp2_with fail
    change bodyPost _ _ _ _ _ (set6 W6 w.heap.size (.int .i64 11) (.int .i64 N) (.string ⟨#[]⟩) (.slice none 0 0) (.slice none 0 0) (.slice none 0 0))
    refine bodyPost_ret (results_to rfl rfl (set6_heap hvb6H.out)) rfl ?_
    rw [← hqH.out]
    exact rv_ok (hA.out.tail hs6H.out) hR hB hr6H.out (VIs.flat [] (by omega) (by omega) (by simp))
set_option maxRecDepth 100000 in
set_option maxHeartbeats 4000000 in
theorem val_18 {w : World} {R B o c a : Nat} {b : Bs} (deep : Int) (rec_ : Bool → Nat → Res (List (Bs × Val))) (h : RdS w R B o c b a 0) :
    Calls Tryd.prog 59 #[.pointer (some ⟨R, 0, none⟩), .int .u8 18, .int .i64 deep] w (RVP w R B o c b (decV b rec_ 18 a)) := by
  have hd : decV b rec_ 18 a = if b.length - a < 8 then .bad 2 else .ok (.mk 4 (signed 8 (numAt b a 8)) [] [] [] []) (a + 8) := rfl
  rw [hd]
  clear hd
  have hle := h.le
  have hB := h.blt
  have hR := lt_of_block h.cell
  have hcap := h.cap
  have hsm := h.small
  have hne := h.ne
  obtain ⟨W0, hW0⟩ : ∃ W0, W0 = w.alloc (.cells #[.int .i64 0, .int .i64 0, (.string ⟨#[]⟩), (.slice none 0 0), (.slice none 0 0), (.slice none 0 0)] 27) := ⟨_, rfl⟩
  have hA0 : Step [] id id w W0 := by rw [hW0]; exact Step.alloc _
  have hV0 := Lib.hid (show W0.heap[w.heap.size]? = some (.cells #[.int .i64 0, .int .i64 0, (.string ⟨#[]⟩), (.slice none 0 0), (.slice none 0 0), (.slice none 0 0)] 27 (0, 0)) by rw [hW0]; exact heap_alloc_new w _)
  have h0 := Lib.hid (h.step hA0)
  have hA := Lib.hid (show Step [R] id id w W0 by rw [hW0]; exact Step.alloc _)
  have hWH := Lib.hid hW0
  clear h hA0 hW0
  by_cases hn : b.length - a < 8
  · rw [if_pos hn]
    go_enter Tryd.func59, Tryd.ntmps59
    go_wp2_with fail
    rw [← hWH.out]
    refine (need_no h0.out 8 (by omega)).mono ?_
    rintro e w1 ⟨rfl, hr, hst⟩
    have hrw1 := Lib.hid hr
    have hsw1 := Lib.hid ((Step.refl [R] id W0).tail hst)
    have hvb := hsw1.out.at hV0.out (by simp; omega)
    have p0 := cell_blk hvb (i := 0) rfl; have p1 := cell_blk hvb (i := 1) rfl; have p2 := cell_blk hvb (i := 2) rfl; have p3 := cell_blk hvb (i := 3) rfl; have p4 := cell_blk hvb (i := 4) rfl; have p5 := cell_blk hvb (i := 5) rfl; have pf := free_blk hvb
    have hvbH := Lib.hid hvb
    clear hr hst hvb
    go_wp2_with fail
    change bodyPost _ _ _ _ _ (set6 w1 w.heap.size (.int .i64 0) (.int .i64 0) (.string ⟨#[]⟩) (.slice none 0 0) (.slice none 0 0) (.slice none 0 0))
    refine bodyPost_ret (results_to rfl rfl (set6_heap hvbH.out)) rfl ?_
    (try rw [hres.out])
    exact rv_bad (hA.out.tail hsw1.out) hR hB hrw1.out
  rw [if_neg hn]
  have hna : a + 8 ≤ b.length := by omega
  have hlt8 := numAt_lt8 hna
  obtain ⟨M, hM⟩ : ∃ M, M = numAt b a 8 := ⟨_, rfl⟩
  rw [← hM] at hlt8 ⊢
  obtain ⟨N, hN⟩ : ∃ N, signed 8 M = N := ⟨_, rfl⟩
  have hcv2 : IntKind.i64.wrap (M : Int) = N := by
    rw [IntWalk.i64_left, ← hN]; exact conv64 M hlt8
  have hrg := signed8_range M hlt8
  rw [hN] at hrg ⊢
  have hMH := Lib.hid hM
  clear hN hM
  go_enter Tryd.func59, Tryd.ntmps59
  go_wp2_with fail
  rw [← hWH.out]
  refine (need_ok h0.out 8 (by omega)).mono ?_
  rintro e w1 ⟨rfl, hr, hst⟩
  have hrw1 := Lib.hid hr
  have hsw1 := Lib.hid ((Step.refl [R] id W0).tail hst)
  clear hr hst
  obtain ⟨q, hq⟩ : ∃ q, q = a + 8 := ⟨_, rfl⟩
  have hw6 : IntKind.i64.wrap ((a : Int) + 8) = (q : Int) := by rw [hq]; push_cast; exact IntWalk.i64_in _ (by omega)
  have hw7 : IntKind.i64.wrap ((q : Int) - 8) = (a : Int) := by rw [show (q : Int) - 8 = (a : Int) by omega]; exact IntWalk.i64_in _ (by omega)
  have hqb : q ≤ b.length := by omega
  have hqH := Lib.hid hq
  clear hq
  have c0 := cell_blk hrw1.out.cell (i := 0) rfl; have c1 := cell_blk hrw1.out.cell (i := 1) rfl; have fR := free_blk hrw1.out.cell
  go_wp2_with fail
  obtain ⟨W3, hW3⟩ : ∃ W3, W3 = w1.setCell ⟨R, 1, none⟩ (.int .i64 (q : Int)) := ⟨_, rfl⟩
  rw [← hW3]
  have hr3 : RdS W3 R B o c b q 0 := by rw [hW3]; exact hrw1.out.moved q hqb
  have hst3 : Step [R] id id w1 W3 := by rw [hW3]; exact Step.set _ _ (by simp)
  clear c0 c1 fR
  have c0 := cell_blk hr3.cell (i := 0) rfl; have c1 := cell_blk hr3.cell (i := 1) rfl; have fR := free_blk hr3.cell
  have hvb3 := (hsw1.out.tail hst3).at hV0.out (by simp; omega)
  have hs3H := Lib.hid (hsw1.out.tail hst3)
  have hr3H := Lib.hid hr3
  have hvb3H := Lib.hid hvb3
  have hW3H := Lib.hid hW3
  have hgt := fun (W : World) (hW : Step [] id id W3 W) => ref_get (w := W) (B := B) (o := o) (c := c) (a := a) (b := b) 8 (fun i hi => (hr3H.out.step hW).bytes i hi) hsm hna (by omega)
  rw [← hMH.out] at hgt
  have hgtH := Lib.hid hgt
  clear hst3 hr3 hvb3 hW3 hgt
  refine wp_region_held_drew (S := (fun w' => w'.cell? ⟨R, 0, none⟩ = some (.slice (some ⟨B, o, none⟩) b.length c) ∧ w'.cell? ⟨R, 1, none⟩ = some (.int .i64 (q : Int)))) (by kernel_rfl) ⟨c0, c1⟩ (fun hHeld => ?_)
  refine wpAnyH_take (i := 0) (v := ?_) rfl (by kernel_rfl) (by kernel_rfl) (by kernel_rfl) (fun _ _ _ h => h) (Or.inl ⟨by kernel_rfl, ?_⟩) hHeld ?_
  rotate_left
  · intro w' hSw; (try dsimp only at hSw); go_simp
    all_goals (with_reducible rfl)
  simp only [Act.put, List.getElem_toArray, List.getElem_cons_zero, List.getElem_cons_succ, List.setIfInBounds_toArray, List.set_cons_zero, List.set_cons_succ]
  refine wpAnyH_take (i := 1) (v := ?_) rfl (by kernel_rfl) (by kernel_rfl) (by kernel_rfl) (fun _ _ _ h => h) (Or.inl ⟨by kernel_rfl, ?_⟩) hHeld ?_
  rotate_left
  · intro w' hSw; (try dsimp only at hSw); go_simp
    all_goals (with_reducible rfl)
  simp only [Act.put, List.getElem_toArray, List.getElem_cons_zero, List.getElem_cons_succ, List.setIfInBounds_toArray, List.set_cons_zero, List.set_cons_succ]
  refine wpAnyH_take (i := 2) (v := ?_) rfl (by kernel_rfl) (by kernel_rfl) (by kernel_rfl) (fun _ _ _ h => h) (Or.inl ⟨by kernel_rfl, ?_⟩) hHeld ?_
  rotate_left
  · intro w' hSw; (try dsimp only at hSw); go_simp
    all_goals (with_reducible rfl)
  simp only [Act.put, List.getElem_toArray, List.getElem_cons_zero, List.getElem_cons_succ, List.setIfInBounds_toArray, List.set_cons_zero, List.set_cons_succ]
  refine wpAnyH_take (i := 3) (v := ?_) rfl (by kernel_rfl) (by kernel_rfl) (by kernel_rfl) (fun _ _ _ h => h) (Or.inl ⟨by kernel_rfl, ?_⟩) hHeld ?_
  rotate_left
  · intro w' hSw; (try dsimp only at hSw); go_simp
    all_goals (with_reducible rfl)
  simp only [Act.put, List.getElem_toArray, List.getElem_cons_zero, List.getElem_cons_succ, List.setIfInBounds_toArray, List.set_cons_zero, List.set_cons_succ]
  refine wpAnyH_take (i := 4) (v := ?_) rfl (by kernel_rfl) (by kernel_rfl) (by kernel_rfl) (fun _ _ _ h => h) (Or.inl ⟨by kernel_rfl, ?_⟩) hHeld ?_
  rotate_left
  · intro w' hSw; (try dsimp only at hSw); go_simp
    all_goals (with_reducible rfl)
  simp only [Act.put, List.getElem_toArray, List.getElem_cons_zero, List.getElem_cons_succ, List.setIfInBounds_toArray, List.set_cons_zero, List.set_cons_succ]
  refine wpAnyH_take (i := 5) (v := ?_) rfl (by kernel_rfl) (by kernel_rfl) (by kernel_rfl) (fun _ _ _ h => h) (Or.inl ⟨by kernel_rfl, ?_⟩) hHeld ?_
  rotate_left
  · intro w' hSw; (try dsimp only at hSw); go_simp
    all_goals (with_reducible rfl)
  simp only [Act.put, List.getElem_toArray, List.getElem_cons_zero, List.getElem_cons_succ, List.setIfInBounds_toArray, List.set_cons_zero, List.set_cons_succ]
  refine wpAnyH_take (i := 6) (v := ?_) rfl (by kernel_rfl) (by kernel_rfl) (by kernel_rfl) (fun _ _ _ h => h) (Or.inl ⟨by kernel_rfl, ?_⟩) hHeld ?_
  rotate_left
  · intro w' hSw; (try dsimp only at hSw); go_simp
    all_goals (with_reducible rfl)
  simp only [Act.put, List.getElem_toArray, List.getElem_cons_zero, List.getElem_cons_succ, List.setIfInBounds_toArray, List.set_cons_zero, List.set_cons_succ]
  refine wpAnyH_take (i := 7) (v := ?_) rfl (by kernel_rfl) (by kernel_rfl) (by kernel_rfl) (fun _ _ _ h => h) (Or.inl ⟨by kernel_rfl, ?_⟩) hHeld ?_
  rotate_left
  · intro w' hSw; (try dsimp only at hSw); go_simp
    all_goals (with_reducible rfl)
  simp only [Act.put, List.getElem_toArray, List.getElem_cons_zero, List.getElem_cons_succ, List.setIfInBounds_toArray, List.set_cons_zero, List.set_cons_succ]
  refine wpAnyH_take (i := 8) (v := ?_) rfl (by kernel_rfl) (by kernel_rfl) (by kernel_rfl) (fun _ _ _ h => h) (Or.inl ⟨by kernel_rfl, ?_⟩) hHeld ?_
  rotate_left
  · intro w' hSw; (try dsimp only at hSw); go_simp
    all_goals (with_reducible rfl)
  simp only [Act.put, List.getElem_toArray, List.getElem_cons_zero, List.getElem_cons_succ, List.setIfInBounds_toArray, List.set_cons_zero, List.set_cons_succ]
  refine wpAnyH_ready (rs := [9, 12]) (by kernel_rfl) (by simp) ?_
  refine AllReadyH.cons (o := _) rfl (fun K hK => ?_) (AllReadyH.cons (o := _) rfl (fun K hK => ?_) AllReadyH.nil)
  · go_simp
    refine (hgtH.out _ Step.drew).mono ?_
    rintro e w' ⟨rfl, rfl⟩
    go_wp2_with fail
    refine hK.out _ _ ?_ (fun hHeld => ?_)
    · exact ⟨c0, c1⟩
    clear hK K
    refine wpAnyH_take (i := 10) (v := ?_) rfl (by kernel_rfl) (by kernel_rfl) (by kernel_rfl) (fun _ _ _ h => h) (Or.inl ⟨by kernel_rfl, ?_⟩) hHeld ?_
    rotate_left
    · intro w' hSw; (try dsimp only at hSw); go_simp
      all_goals (with_reducible rfl)
    simp only [Act.put, List.getElem_toArray, List.getElem_cons_zero, List.getElem_cons_succ, List.setIfInBounds_toArray, List.set_cons_zero, List.set_cons_succ]
    refine wpAnyH_take (i := 11) (v := ?_) rfl (by kernel_rfl) (by kernel_rfl) (by kernel_rfl) (fun _ _ _ h => h) (Or.inl ⟨by kernel_rfl, ?_⟩) hHeld ?_
    rotate_left
    · intro w' hSw; (try dsimp only at hSw); go_simp
      all_goals (with_reducible rfl)
    simp only [Act.put, List.getElem_toArray, List.getElem_cons_zero, List.getElem_cons_succ, List.setIfInBounds_toArray, List.set_cons_zero, List.set_cons_succ]
    refine wpAnyH_ready (rs := [12]) (by kernel_rfl) (by simp) ?_
    refine AllReadyH.cons (o := _) rfl (fun K hK => ?_) AllReadyH.nil
    go_simp
    refine hK.out _ _ ?_ (fun hHeld => ?_)
    · exact ⟨(World.cell?_of_block (w := W3.drew) (w' := W3.drew.alloc (.cells #[.int .i64 0, .int .i64 0, (.string ⟨#[]⟩), (.slice none 0 0), (.slice none 0 0), (.slice none 0 0)] 27)) (a := ⟨R, 0, none⟩) (Below.heap_alloc _ _ _ (lt_of_block hr3H.out.cell))).trans c0, (World.cell?_of_block (w := W3.drew) (w' := W3.drew.alloc (.cells #[.int .i64 0, .int .i64 0, (.string ⟨#[]⟩), (.slice none 0 0), (.slice none 0 0), (.slice none 0 0)] 27)) (a := ⟨R, 1, none⟩) (Below.heap_alloc _ _ _ (lt_of_block hr3H.out.cell))).trans c1⟩
    clear hK K
    obtain ⟨W5, hW5⟩ : ∃ W5, W5 = (W3.alloc (.cells #[.int .i64 0, .int .i64 0, (.string ⟨#[]⟩), (.slice none 0 0), (.slice none 0 0), (.slice none 0 0)] 27)).drew := ⟨_, rfl⟩
    have hst5 : Step [] id id W3 W5 := by rw [hW5]; exact (Step.alloc _).tail Step.drew
    have hN5 : W5.heap[W3.heap.size]? = some (.cells #[.int .i64 0, .int .i64 0, (.string ⟨#[]⟩), (.slice none 0 0), (.slice none 0 0), (.slice none 0 0)] 27 (0, 0)) := by rw [hW5]; exact heap_alloc_new W3 _
    rw [← hW5] at hHeld ⊢
    have hr5 := hr3H.out.step hst5
    have hvb5 := hst5.at hvb3H.out (by simp)
    clear c0 c1 fR
    have c0 := cell_blk hr5.cell (i := 0) rfl; have c1 := cell_blk hr5.cell (i := 1) rfl; have fR := free_blk hr5.cell
    have q0 := cell_blk hN5 (i := 0) rfl; have q1 := cell_blk hN5 (i := 1) rfl; have q2 := cell_blk hN5 (i := 2) rfl; have q3 := cell_blk hN5 (i := 3) rfl; have q4 := cell_blk hN5 (i := 4) rfl; have q5 := cell_blk hN5 (i := 5) rfl; have qf := free_blk hN5
    have hvl5 := lt_of_block hvb5
    have hnl5 := lt_of_block hN5
    have hrl5 := lt_of_block hr5.cell
    have hrl3 := lt_of_block hr3H.out.cell
    have hVl3 := lt_of_block hvb3H.out
    have hr5H := Lib.hid hr5
    have hvb5H := Lib.hid hvb5
    have hN5H := Lib.hid hN5
    have hs5H := Lib.hid (hs3H.out.tail (hst5.mono (fun _ h => by cases h)))
    clear hW5 hst5 hr5 hvb5 hN5
    refine wpAnyH_ready (rs := [13]) (by kernel_rfl) (by simp) ?_
    refine AllReadyH.cons (o := _) rfl (fun K hK => ?_) AllReadyH.nil
    go_simp
    change K _ (set6 W5 W3.heap.size (.int .i64 11) (.int .i64 N) (.string ⟨#[]⟩) (.slice none 0 0) (.slice none 0 0) (.slice none 0 0))
    obtain ⟨W6, hW6⟩ : ∃ W6, W6 = set6 W5 W3.heap.size (.int .i64 11) (.int .i64 N) (.string ⟨#[]⟩) (.slice none 0 0) (.slice none 0 0) (.slice none 0 0) := ⟨_, rfl⟩
    have hg6 : W5.grownBy W6 (some W3.heap.size) := by rw [hW6]; exact set6_grown
    have hN6 : W6.heap[W3.heap.size]? = some (.cells #[.int .i64 11, .int .i64 N, (.string ⟨#[]⟩), (.slice none 0 0), (.slice none 0 0), (.slice none 0 0)] 27 (0, 0)) := by rw [hW6]; exact set6_heap hN5H.out
    rw [← hW6]
    clear hW6
    have hRb6 := hg6.block R hrl5 (by simp; omega)
    have hvb6 := (hg6.block w.heap.size hvl5 (by simp; omega)).trans hvb5H.out
    refine hK.out _ _ ?_ (fun hHeld => ?_)
    · exact ⟨(World.cell?_of_block (a := ⟨R, 0, none⟩) hRb6).trans c0, (World.cell?_of_block (a := ⟨R, 1, none⟩) hRb6).trans c1⟩
    clear hK K
    refine wpAnyH_done (by kernel_rfl) ?_ _
    have hr6 : RdS W6 R B o c b q 0 := hr5H.out.off (T := [W3.heap.size]) (.grown hg6 (fun k hk => by cases hk; simp)) (by simp; omega) (by simp; have := hr3H.out.blt; omega)
    have hs6 : Step [R] id id W0 W6 := hs5H.out.tailNew (T2 := [W3.heap.size]) (.grown hg6 (fun k hk => by cases hk; simp)) (by have := lt_of_block hV0.out; have := hs3H.out.size; simp; omega)
    clear c0 c1 fR q0 q1 q2 q3 q4 q5 qf hHeld
    have p0 := cell_blk hvb6 (i := 0) rfl; have p1 := cell_blk hvb6 (i := 1) rfl; have p2 := cell_blk hvb6 (i := 2) rfl; have p3 := cell_blk hvb6 (i := 3) rfl; have p4 := cell_blk hvb6 (i := 4) rfl; have p5 := cell_blk hvb6 (i := 5) rfl; have pf := free_blk hvb6
    have q0 := cell_blk hN6 (i := 0) rfl; have q1 := cell_blk hN6 (i := 1) rfl; have q2 := cell_blk hN6 (i := 2) rfl; have q3 := cell_blk hN6 (i := 3) rfl; have q4 := cell_blk hN6 (i := 4) rfl; have q5 := cell_blk hN6 (i := 5) rfl; have qf := free_blk hN6
    have hvl6 := lt_of_block hvb6
    have hnl6 := lt_of_block hN6
    have hvn : ¬ w.heap.size = W3.heap.size := by omega
    have hnv : ¬ W3.heap.size = w.heap.size := by omega
    have hr6H := Lib.hid hr6
    have hs6H := Lib.hid hs6
    have hvb6H := Lib.hid hvb6
    have hN6H := Lib.hid hN6
    clear hr6 hs6 hvb6 hN6 hg6 hRb6
    go_wp2_with fail
    have hsX : Step [W3.heap.size] id id W6 (W6.setCell ⟨W3.heap.size, 0, none⟩ (.int .i64 4)) := Step.set _ _ (by simp)
    change bodyPost _ _ _ _ _ (set6 (W6.setCell ⟨W3.heap.size, 0, none⟩ (.int .i64 4)) w.heap.size (.int .i64 4) (.int .i64 N) (.string ⟨#[]⟩) (.slice none 0 0) (.slice none 0 0) (.slice none 0 0))
    refine bodyPost_ret (results_to rfl rfl (set6_heap (hsX.at hvb6H.out (by simp; omega)))) rfl ?_
    rw [← hqH.out]
    exact rv_ok (hA.out.tail (hs6H.out.tailNew hsX (by have := lt_of_block hV0.out; have := hs3H.out.size; simp; omega))) hR hB (hr6H.out.off hsX (by simp; omega) (by simp; have := hr3H.out.blt; omega)) (VIs.flat [] (by omega) (by omega) (by simp))
  · go_simp
    refine hK.out _ _ ?_ (fun hHeld => ?_)
    · exact ⟨(World.cell?_of_block (w := W3.drew) (w' := W3.drew.alloc (.cells #[.int .i64 0, .int .i64 0, (.string ⟨#[]⟩), (.slice none 0 0), (.slice none 0 0), (.slice none 0 0)] 27)) (a := ⟨R, 0, none⟩) (Below.heap_alloc _ _ _ (lt_of_block hr3H.out.cell))).trans c0, (World.cell?_of_block (w := W3.drew) (w' := W3.drew.alloc (.cells #[.int .i64 0, .int .i64 0, (.string ⟨#[]⟩), (.slice none 0 0), (.slice none 0 0), (.slice none 0 0)] 27)) (a := ⟨R, 1, none⟩) (Below.heap_alloc _ _ _ (lt_of_block hr3H.out.cell))).trans c1⟩
    clear hK K
    refine wpAnyH_ready (rs := [9]) (by kernel_rfl) (by simp) ?_
    refine AllReadyH.cons (o := _) rfl (fun K hK => ?_) AllReadyH.nil
    go_simp
    refine (hgtH.out _ ((Step.alloc (.cells #[.int .i64 0, .int .i64 0, (.string ⟨#[]⟩), (.slice none 0 0), (.slice none 0 0), (.slice none 0 0)] 27)).tail Step.drew)).mono ?_
    rintro e w' ⟨rfl, rfl⟩
    go_wp2_with fail
    refine hK.out _ _ ?_ (fun hHeld => ?_)
    · exact hHeld
    clear hK K
    refine wpAnyH_take (i := 10) (v := ?_) rfl (by kernel_rfl) (by kernel_rfl) (by kernel_rfl) (fun _ _ _ h => h) (Or.inl ⟨by kernel_rfl, ?_⟩) hHeld ?_
    rotate_left
    · intro w' hSw; (try dsimp only at hSw); go_simp
      all_goals (with_reducible rfl)
    simp only [Act.put, List.getElem_toArray, List.getElem_cons_zero, List.getElem_cons_succ, List.setIfInBounds_toArray, List.set_cons_zero, List.set_cons_succ]
    refine wpAnyH_take (i := 11) (v := ?_) rfl (by kernel_rfl) (by kernel_rfl) (by kernel_rfl) (fun _ _ _ h => h) (Or.inl ⟨by kernel_rfl, ?_⟩) hHeld ?_
    rotate_left
    · intro w' hSw; (try dsimp only at hSw); go_simp
      all_goals (with_reducible rfl)
    simp only [Act.put, List.getElem_toArray, List.getElem_cons_zero, List.getElem_cons_succ, List.setIfInBounds_toArray, List.set_cons_zero, List.set_cons_succ]
    obtain ⟨W5, hW5⟩ : ∃ W5, W5 = (W3.alloc (.cells #[.int .i64 0, .int .i64 0, (.string ⟨#[]⟩), (.slice none 0 0), (.slice none 0 0), (.slice none 0 0)] 27)).drew := ⟨_, rfl⟩
    have hst5 : Step [] id id W3 W5 := by rw [hW5]; exact (Step.alloc _).tail Step.drew
    have hN5 : W5.heap[W3.heap.size]? = some (.cells #[.int .i64 0, .int .i64 0, (.string ⟨#[]⟩), (.slice none 0 0), (.slice none 0 0), (.slice none 0 0)] 27 (0, 0)) := by rw [hW5]; exact heap_alloc_new W3 _
    rw [← hW5] at hHeld ⊢
    have hr5 := hr3H.out.step hst5
    have hvb5 := hst5.at hvb3H.out (by simp)
    clear c0 c1 fR
    have c0 := cell_blk hr5.cell (i := 0) rfl; have c1 := cell_blk hr5.cell (i := 1) rfl; have fR := free_blk hr5.cell
    have q0 := cell_blk hN5 (i := 0) rfl; have q1 := cell_blk hN5 (i := 1) rfl; have q2 := cell_blk hN5 (i := 2) rfl; have q3 := cell_blk hN5 (i := 3) rfl; have q4 := cell_blk hN5 (i := 4) rfl; have q5 := cell_blk hN5 (i := 5) rfl; have qf := free_blk hN5
    have hvl5 := lt_of_block hvb5
    have hnl5 := lt_of_block hN5
    have hrl5 := lt_of_block hr5.cell
    have hrl3 := lt_of_block hr3H.out.cell
    have hVl3 := lt_of_block hvb3H.out
    have hr5H := Lib.hid hr5
    have hvb5H := Lib.hid hvb5
    have hN5H := Lib.hid hN5
    have hs5H := Lib.hid (hs3H.out.tail (hst5.mono (fun _ h => by cases h)))
    clear hW5 hst5 hr5 hvb5 hN5
    refine wpAnyH_ready (rs := [13]) (by kernel_rfl) (by simp) ?_
    refine AllReadyH.cons (o := _) rfl (fun K hK => ?_) AllReadyH.nil
    go_simp
    change K _ (set6 W5 W3.heap.size (.int .i64 11) (.int .i64 N) (.string ⟨#[]⟩) (.slice none 0 0) (.slice none 0 0) (.slice none 0 0))
    obtain ⟨W6, hW6⟩ : ∃ W6, W6 = set6 W5 W3.heap.size (.int .i64 11) (.int .i64 N) (.string ⟨#[]⟩) (.slice none 0 0) (.slice none 0 0) (.slice none 0 0) := ⟨_, rfl⟩
    have hg6 : W5.grownBy W6 (some W3.heap.size) := by rw [hW6]; exact set6_grown
    have hN6 : W6.heap[W3.heap.size]? = some (.cells #[.int .i64 11, .int .i64 N, (.string ⟨#[]⟩), (.slice none 0 0), (.slice none 0 0), (.slice none 0 0)] 27 (0, 0)) := by rw [hW6]; exact set6_heap hN5H.out
    rw [← hW6]
    clear hW6
    have hRb6 := hg6.block R hrl5 (by simp; omega)
    have hvb6 := (hg6.block w.heap.size hvl5 (by simp; omega)).trans hvb5H.out
    refine hK.out _ _ ?_ (fun hHeld => ?_)
    · exact ⟨(World.cell?_of_block (a := ⟨R, 0, none⟩) hRb6).trans c0, (World.cell?_of_block (a := ⟨R, 1, none⟩) hRb6).trans c1⟩
    clear hK K
    refine wpAnyH_done (by kernel_rfl) ?_ _
    have hr6 : RdS W6 R B o c b q 0 := hr5H.out.off (T := [W3.heap.size]) (.grown hg6 (fun k hk => by cases hk; simp)) (by simp; omega) (by simp; have := hr3H.out.blt; omega)
    have hs6 : Step [R] id id W0 W6 := hs5H.out.tailNew (T2 := [W3.heap.size]) (.grown hg6 (fun k hk => by cases hk; simp)) (by have := lt_of_block hV0.out; have := hs3H.out.size; simp; omega)
    clear c0 c1 fR q0 q1 q2 q3 q4 q5 qf hHeld
    have p0 := cell_blk hvb6 (i := 0) rfl; have p1 := cell_blk hvb6 (i := 1) rfl; have p2 := cell_blk hvb6 (i := 2) rfl; have p3 := cell_blk hvb6 (i := 3) rfl; have p4 := cell_blk hvb6 (i := 4) rfl; have p5 := cell_blk hvb6 (i := 5) rfl; have pf := free_blk hvb6
    have q0 := cell_blk hN6 (i := 0) rfl; have q1 := cell_blk hN6 (i := 1) rfl; have q2 := cell_blk hN6 (i := 2) rfl; have q3 := cell_blk hN6 (i := 3) rfl; have q4 := cell_blk hN6 (i := 4) rfl; have q5 := cell_blk hN6 (i := 5) rfl; have qf := free_blk hN6
    have hvl6 := lt_of_block hvb6
    have hnl6 := lt_of_block hN6
    have hvn : ¬ w.heap.size = W3.heap.size := by omega
    have hnv : ¬ W3.heap.size = w.heap.size := by omega
    have hr6H := Lib.hid hr6
    have hs6H := Lib.hid hs6
    have hvb6H := Lib.hid hvb6
    have hN6H := Lib.hid hN6
    clear hr6 hs6 hvb6 hN6 hg6 hRb6
    go_wp2_with fail
    have hsX : Step [W3.heap.size] id id W6 (W6.setCell ⟨W3.heap.size, 0, none⟩ (.int .i64 4)) := Step.set _ _ (by simp)
    change bodyPost _ _ _ _ _ (set6 (W6.setCell ⟨W3.heap.size, 0, none⟩ (.int .i64 4)) w.heap.size (.int .i64 4) (.int .i64 N) (.string ⟨#[]⟩) (.slice none 0 0) (.slice none 0 0) (.slice none 0 0))
    refine bodyPost_ret (results_to rfl rfl (set6_heap (hsX.at hvb6H.out (by simp; omega)))) rfl ?_
    rw [← hqH.out]
    exact rv_ok (hA.out.tail (hs6H.out.tailNew hsX (by have := lt_of_block hV0.out; have := hs3H.out.size; simp; omega))) hR hB (hr6H.out.off hsX (by simp; omega) (by simp; have := hr3H.out.blt; omega)) (VIs.flat [] (by omega) (by omega) (by simp))
set_option maxRecDepth 100000 in
set_option maxHeartbeats 4000000 in
theorem val_8 {w : World} {R B o c a : Nat} {b : Bs} (deep : Int) (rec_ : Bool → Nat → Res (List (Bs × Val))) (h : RdS w R B o c b a 0) :
    Calls Tryd.prog 59 #[.pointer (some ⟨R, 0, none⟩), .int .u8 8, .int .i64 deep] w (RVP w R B o c b (decV b rec_ 8 a)) := by
  have hd : decV b rec_ 8 a = if b.length - a < 1 then .bad 2 else if numAt b a 1 ≤ 1 then .ok (.mk 10 (numAt b a 1) [] [] [] []) (a + 1) else .bad 4 := rfl
  rw [hd]
  clear hd
  have hle := h.le
  have hB := h.blt
  have hR := lt_of_block h.cell
  have hcap := h.cap
  have hsm := h.small
  have hne := h.ne
  obtain ⟨W0, hW0⟩ : ∃ W0, W0 = w.alloc (.cells #[.int .i64 0, .int .i64 0, (.string ⟨#[]⟩), (.slice none 0 0), (.slice none 0 0), (.slice none 0 0)] 27) := ⟨_, rfl⟩
  have hA0 : Step [] id id w W0 := by rw [hW0]; exact Step.alloc _
  have hV0 := Lib.hid (show W0.heap[w.heap.size]? = some (.cells #[.int .i64 0, .int .i64 0, (.string ⟨#[]⟩), (.slice none 0 0), (.slice none 0 0), (.slice none 0 0)] 27 (0, 0)) by rw [hW0]; exact heap_alloc_new w _)
  have h0 := Lib.hid (h.step hA0)
  have hA := Lib.hid (show Step [R] id id w W0 by rw [hW0]; exact Step.alloc _)
  have hWH := Lib.hid hW0
  clear h hA0 hW0
  by_cases hn : b.length - a < 1
  · rw [if_pos hn]
    go_enter Tryd.func59, Tryd.ntmps59
    go_wp2_with fail
    rw [← hWH.out]
    refine (need_no h0.out 1 (by omega)).mono ?_
    rintro e w1 ⟨rfl, hr, hst⟩
    have hrw1 := Lib.hid hr
    have hsw1 := Lib.hid ((Step.refl [R] id W0).tail hst)
    have hvb := hsw1.out.at hV0.out (by simp; omega)
    have p0 := cell_blk hvb (i := 0) rfl; have p1 := cell_blk hvb (i := 1) rfl; have p2 := cell_blk hvb (i := 2) rfl; have p3 := cell_blk hvb (i := 3) rfl; have p4 := cell_blk hvb (i := 4) rfl; have p5 := cell_blk hvb (i := 5) rfl; have pf := free_blk hvb
    have hvbH := Lib.hid hvb
    clear hr hst hvb
    go_wp2_with fail
    change bodyPost _ _ _ _ _ (set6 w1 w.heap.size (.int .i64 0) (.int .i64 0) (.string ⟨#[]⟩) (.slice none 0 0) (.slice none 0 0) (.slice none 0 0))
    refine bodyPost_ret (results_to rfl rfl (set6_heap hvbH.out)) rfl ?_
    (try rw [hres.out])
    exact rv_bad (hA.out.tail hsw1.out) hR hB hrw1.out
  rw [if_neg hn]
  have hna : a + 1 ≤ b.length := by omega
  rw [num1 (show a < b.length by omega)]
  obtain ⟨y, hy⟩ : ∃ y : Nat, y = (b[a]'(by omega)).toNat := ⟨_, rfl⟩
  have hy256 := (b[a]'(by omega)).toNat_lt
  rw [← hy] at hy256 ⊢
  obtain ⟨RES, hR0⟩ : ∃ RES : Res Val, RES = (if y ≤ 1 then .ok (.mk 10 (y : Int) [] [] [] []) (a + 1) else .bad 4) := ⟨_, rfl⟩
  rw [← hR0]
  have hRES := Lib.hid hR0
  have hyH := Lib.hid hy
  clear hR0 hy
  go_enter Tryd.func59, Tryd.ntmps59
  go_wp2_with fail
  rw [← hWH.out]
  refine (need_ok h0.out 1 (by omega)).mono ?_
  rintro e w1 ⟨rfl, hr, hst⟩
  have hrw1 := Lib.hid hr
  have hsw1 := Lib.hid ((Step.refl [R] id W0).tail hst)
  clear hr hst
  obtain ⟨q, hq⟩ : ∃ q, q = a + 1 := ⟨_, rfl⟩
  have hw6 : IntKind.i64.wrap ((a : Int) + 1) = (q : Int) := by rw [hq]; push_cast; exact IntWalk.i64_in _ (by omega)
  have hw7 : IntKind.i64.wrap ((q : Int) - 1) = (a : Int) := by rw [show (q : Int) - 1 = (a : Int) by omega]; exact IntWalk.i64_in _ (by omega)
  have hwy : IntKind.i64.wrap (y : Int) = (y : Int) := IntWalk.i64_in _ (by omega)
  have hqb : q ≤ b.length := by omega
  have hal : a < b.length := by omega
  have hali : (a : Int) < (b.length : Int) := by omega
  have hqH := Lib.hid hq
  clear hq
  have c0 := cell_blk hrw1.out.cell (i := 0) rfl; have c1 := cell_blk hrw1.out.cell (i := 1) rfl; have fR := free_blk hrw1.out.cell
  have hcell : w1.cell? ⟨B, o + a, none⟩ = some (.int .u8 (y : Int)) := by rw [hyH.out]; exact hrw1.out.bytes a hal
  go_wp2_with fail
  go_quiet (fail)
  by_cases hy1 : y ≤ 1
  · have hres := Lib.hid (show RES = .ok (.mk 10 (y : Int) [] [] [] []) q by rw [hRES.out, if_pos hy1, hqH.out])
    have hyi : (y : Int) ≤ 1 := by omega
    go_wp2_with fail
    obtain ⟨W3, hW3⟩ : ∃ W3, W3 = (w1.drewN nq).setCell ⟨R, 1, none⟩ (.int .i64 (q : Int)) := ⟨_, rfl⟩
    rw [← hW3]
    clear c0 c1 fR hcell
    have hr3 : RdS W3 R B o c b q 0 := by rw [hW3]; exact ((hrw1.out.step (Step.drewN _ _)).moved q hqb)
    have hst3 : Step [R] id id w1 W3 := by rw [hW3]; exact ((Step.drewN w1 nq).tail (Step.set _ _ (by simp)))
    have hvb3 := (hsw1.out.tail hst3).at hV0.out (by simp; omega)
    have hs3H := Lib.hid (hsw1.out.tail hst3)
    have hr3H := Lib.hid hr3
    have hvb3H := Lib.hid hvb3
    have c0 := cell_blk hr3.cell (i := 0) rfl; have c1 := cell_blk hr3.cell (i := 1) rfl; have fR := free_blk hr3.cell
    clear hW3 hst3 hr3 hvb3
    refine wp_region_held_drew (S := (fun w' => w'.cell? ⟨R, 0, none⟩ = some (.slice (some ⟨B, o, none⟩) b.length c) ∧ w'.cell? ⟨R, 1, none⟩ = some (.int .i64 (q : Int)) ∧ w'.cell? ⟨B, o + a, none⟩ = some (.int .u8 (y : Int)))) (by kernel_rfl) ⟨c0, c1, by rw [hyH.out]; exact hr3H.out.bytes a (by omega)⟩ (fun hHeld => ?_)
    clear c0 c1 fR
    obtain ⟨W4, hW4⟩ : ∃ W4, W4 = W3.drew := ⟨_, rfl⟩
    have hst4 : Step [] id id W3 W4 := by rw [hW4]; exact Step.drew
    rw [← hW4] at hHeld ⊢
    have hr4 := hr3H.out.step hst4
    have hvb4 := hst4.at hvb3H.out (by simp)
    have hvl4 := lt_of_block hvb4
    have c0 := cell_blk hr4.cell (i := 0) rfl; have c1 := cell_blk hr4.cell (i := 1) rfl; have fR := free_blk hr4.cell
    have p0 := cell_blk hvb4 (i := 0) rfl; have p1 := cell_blk hvb4 (i := 1) rfl; have p2 := cell_blk hvb4 (i := 2) rfl; have p3 := cell_blk hvb4 (i := 3) rfl; have p4 := cell_blk hvb4 (i := 4) rfl; have p5 := cell_blk hvb4 (i := 5) rfl; have pf := free_blk hvb4
    have hr4H := Lib.hid hr4
    have hvb4H := Lib.hid hvb4
    have hs4H := Lib.hid (hs3H.out.tail (hst4.mono (fun _ h => by cases h)))
    clear hW4 hst4 hr4 hvb4
    refine wpAnyH_take (i := 0) (v := ?_) rfl (by kernel_rfl) (by kernel_rfl) (by kernel_rfl) (fun _ _ _ h => h) (Or.inl ⟨by kernel_rfl, ?_⟩) hHeld ?_
    rotate_left
    · intro w' hSw; (try dsimp only at hSw); go_simp
      all_goals (with_reducible rfl)
    simp only [Act.put, List.getElem_toArray, List.getElem_cons_zero, List.getElem_cons_succ, List.setIfInBounds_toArray, List.set_cons_zero, List.set_cons_succ]
    refine wpAnyH_take (i := 1) (v := ?_) rfl (by kernel_rfl) (by kernel_rfl) (by kernel_rfl) (fun _ _ _ h => h) (Or.inl ⟨by kernel_rfl, ?_⟩) hHeld ?_
    rotate_left
    · intro w' hSw; (try dsimp only at hSw); go_simp
      all_goals (with_reducible rfl)
    simp only [Act.put, List.getElem_toArray, List.getElem_cons_zero, List.getElem_cons_succ, List.setIfInBounds_toArray, List.set_cons_zero, List.set_cons_succ]
    refine wpAnyH_take (i := 2) (v := ?_) rfl (by kernel_rfl) (by kernel_rfl) (by kernel_rfl) (fun _ _ _ h => h) (Or.inl ⟨by kernel_rfl, ?_⟩) hHeld ?_
    rotate_left
    · intro w' hSw; (try dsimp only at hSw); go_simp
      all_goals (with_reducible rfl)
    simp only [Act.put, List.getElem_toArray, List.getElem_cons_zero, List.getElem_cons_succ, List.setIfInBounds_toArray, List.set_cons_zero, List.set_cons_succ]
    refine wpAnyH_take (i := 3) (v := ?_) rfl (by kernel_rfl) (by kernel_rfl) (by kernel_rfl) (fun _ _ _ h => h) (Or.inl ⟨by kernel_rfl, ?_⟩) hHeld ?_
    rotate_left
    · intro w' hSw; (try dsimp only at hSw); go_simp
      all_goals (with_reducible rfl)
    simp only [Act.put, List.getElem_toArray, List.getElem_cons_zero, List.getElem_cons_succ, List.setIfInBounds_toArray, List.set_cons_zero, List.set_cons_succ]
    refine wpAnyH_take (i := 4) (v := ?_) rfl (by kernel_rfl) (by kernel_rfl) (by kernel_rfl) (fun _ _ _ h => h) (Or.inl ⟨by kernel_rfl, ?_⟩) hHeld ?_
    rotate_left
    · intro w' hSw; (try dsimp only at hSw); go_simp
      all_goals (with_reducible rfl)
    simp only [Act.put, List.getElem_toArray, List.getElem_cons_zero, List.getElem_cons_succ, List.setIfInBounds_toArray, List.set_cons_zero, List.set_cons_succ]
    refine wpAnyH_take (i := 5) (v := ?_) rfl (by kernel_rfl) (by kernel_rfl) (by kernel_rfl) (fun _ _ _ h => h) (Or.inl ⟨by kernel_rfl, ?_⟩) hHeld ?_
    rotate_left
    · intro w' hSw; (try dsimp only at hSw); go_simp
      all_goals (with_reducible rfl)
    simp only [Act.put, List.getElem_toArray, List.getElem_cons_zero, List.getElem_cons_succ, List.setIfInBounds_toArray, List.set_cons_zero, List.set_cons_succ]
    refine wpAnyH_take (i := 6) (v := ?_) rfl (by kernel_rfl) (by kernel_rfl) (by kernel_rfl) (fun _ _ _ h => h) (Or.inl ⟨by kernel_rfl, ?_⟩) hHeld ?_
    rotate_left
    · intro w' hSw; (try dsimp only at hSw); go_simp
      all_goals (with_reducible rfl)
    simp only [Act.put, List.getElem_toArray, List.getElem_cons_zero, List.getElem_cons_succ, List.setIfInBounds_toArray, List.set_cons_zero, List.set_cons_succ]
    refine wpAnyH_take (i := 7) (v := ?_) rfl (by kernel_rfl) (by kernel_rfl) (by kernel_rfl) (fun _ _ _ h => h) (Or.inl ⟨by kernel_rfl, ?_⟩) hHeld ?_
    rotate_left
    · intro w' hSw; (try dsimp only at hSw); go_simp
      all_goals (with_reducible rfl)
    simp only [Act.put, List.getElem_toArray, List.getElem_cons_zero, List.getElem_cons_succ, List.setIfInBounds_toArray, List.set_cons_zero, List.set_cons_succ]
    refine wpAnyH_take (i := 8) (v := ?_) rfl (by kernel_rfl) (by kernel_rfl) (by kernel_rfl) (fun _ _ _ h => h) (Or.inl ⟨by kernel_rfl, ?_⟩) hHeld ?_
    rotate_left
    · intro w' hSw; (try dsimp only at hSw); go_simp
      all_goals (with_reducible rfl)
    simp only [Act.put, List.getElem_toArray, List.getElem_cons_zero, List.getElem_cons_succ, List.setIfInBounds_toArray, List.set_cons_zero, List.set_cons_succ]
    refine wpAnyH_take (i := 9) (v := ?_) rfl (by kernel_rfl) (by kernel_rfl) (by kernel_rfl) (fun _ _ _ h => h) (Or.inl ⟨by kernel_rfl, ?_⟩) hHeld ?_
    rotate_left
    · intro w' hSw; (try dsimp only at hSw); go_simp
      all_goals (with_reducible rfl)
    simp only [Act.put, List.getElem_toArray, List.getElem_cons_zero, List.getElem_cons_succ, List.setIfInBounds_toArray, List.set_cons_zero, List.set_cons_succ]
    refine wpAnyH_take (i := 10) (v := ?_) rfl (by kernel_rfl) (by kernel_rfl) (by kernel_rfl) (fun _ _ _ h => h) (Or.inl ⟨by kernel_rfl, ?_⟩) hHeld ?_
    rotate_left
    · intro w' hSw; (try dsimp only at hSw); go_simp
      all_goals (with_reducible rfl)
    simp only [Act.put, List.getElem_toArray, List.getElem_cons_zero, List.getElem_cons_succ, List.setIfInBounds_toArray, List.set_cons_zero, List.set_cons_succ]
    refine wpAnyH_take (i := 11) (v := ?_) rfl (by kernel_rfl) (by kernel_rfl) (by kernel_rfl) (fun _ _ _ h => h) (Or.inl ⟨by kernel_rfl, ?_⟩) hHeld ?_
    rotate_left
    · intro w' hSw; (try dsimp only at hSw); go_simp
      all_goals (with_reducible rfl)
    simp only [Act.put, List.getElem_toArray, List.getElem_cons_zero, List.getElem_cons_succ, List.setIfInBounds_toArray, List.set_cons_zero, List.set_cons_succ]
    refine wpAnyH_take (i := 12) (v := ?_) rfl (by kernel_rfl) (by kernel_rfl) (by kernel_rfl) (fun _ _ _ h => h) (Or.inl ⟨by kernel_rfl, ?_⟩) hHeld ?_
    rotate_left
    · intro w' hSw; (try dsimp only at hSw); go_simp
      all_goals (with_reducible rfl)
    simp only [Act.put, List.getElem_toArray, List.getElem_cons_zero, List.getElem_cons_succ, List.setIfInBounds_toArray, List.set_cons_zero, List.set_cons_succ]
    refine wpAnyH_ready (rs := [13]) (by kernel_rfl) (by simp) ?_
    refine AllReadyH.cons (o := _) rfl (fun K hK => ?_) AllReadyH.nil
    go_simp
    have hg7 : W4.grownBy (set6 W4 w.heap.size (.int .i64 10) (.int .i64 (y : Int)) (.string ⟨#[]⟩) (.slice none 0 0) (.slice none 0 0) (.slice none 0 0)) (some w.heap.size) := set6_grown
    have hk7 := hg7.block R (lt_of_block hr4H.out.cell) (by simp; omega)
    have hk8 := hg7.block B hr4H.out.blt (by simp; omega)
    have hc4 : W4.cell? ⟨B, o + a, none⟩ = some (.int .u8 (y : Int)) := by rw [hyH.out]; exact hr4H.out.bytes a (by omega)
    change K _ (set6 W4 w.heap.size (.int .i64 10) (.int .i64 (y : Int)) (.string ⟨#[]⟩) (.slice none 0 0) (.slice none 0 0) (.slice none 0 0))
    refine hK.out _ _ ?_ (fun hHeld => ?_)
    · exact ⟨(World.cell?_of_block (a := ⟨R, 0, none⟩) hk7).trans c0, (World.cell?_of_block (a := ⟨R, 1, none⟩) hk7).trans c1, (World.cell?_of_block (a := ⟨B, o + a, none⟩) hk8).trans hc4⟩
    clear hK K hg7 hk7 hk8 hc4
    refine wpAnyH_done (by kernel_rfl) ?_ _
    go_wp2_with fail
    change bodyPost _ _ _ _ _ (set6 W4 w.heap.size (.int .i64 10) (.int .i64 (y : Int)) (.string ⟨#[]⟩) (.slice none 0 0) (.slice none 0 0) (.slice none 0 0))
    refine bodyPost_ret (results_to rfl rfl (set6_heap hvb4H.out)) rfl ?_
    rw [hres.out]
    exact rv_ok (hA.out.tail hs4H.out) hR hB hr4H.out (VIs.flat [] (by omega) (by omega) (by simp))
  · have hres := Lib.hid (show RES = .bad 4 by rw [hRES.out, if_neg hy1])
    have hyi : ¬ (y : Int) ≤ 1 := by omega
    go_wp2_with fail
    refine (bad_ok (hrw1.out.step (Step.drewN _ _)) 4).mono ?_
    rintro e w2 ⟨rfl, hr, hst⟩
    have hrw2 := Lib.hid hr
    have hsw2 := Lib.hid ((hsw1.out.tail (Step.drewN _ _)).tail hst)
    have hvb := hsw2.out.at hV0.out (by simp; omega)
    have p0 := cell_blk hvb (i := 0) rfl; have p1 := cell_blk hvb (i := 1) rfl; have p2 := cell_blk hvb (i := 2) rfl; have p3 := cell_blk hvb (i := 3) rfl; have p4 := cell_blk hvb (i := 4) rfl; have p5 := cell_blk hvb (i := 5) rfl; have pf := free_blk hvb
    have hvbH := Lib.hid hvb
    clear hr hst hvb
    clear c0 c1 fR hcell p0 p1 p2 p3 p4 p5 pf
    have c0 := cell_blk hrw2.out.cell (i := 0) rfl; have c1 := cell_blk hrw2.out.cell (i := 1) rfl; have fR := free_blk hrw2.out.cell
    go_wp2_with fail
    obtain ⟨W3, hW3⟩ : ∃ W3, W3 = w2.setCell ⟨R, 1, none⟩ (.int .i64 (q : Int)) := ⟨_, rfl⟩
    rw [← hW3]
    clear c0 c1 fR
    have hr3 : RdS W3 R B o c b q 4 := by rw [hW3]; exact (hrw2.out.moved q hqb)
    have hst3 : Step [R] id id w2 W3 := by rw [hW3]; exact (Step.set _ _ (by simp))
    have hvb3 := (hsw2.out.tail hst3).at hV0.out (by simp; omega)
    have hs3H := Lib.hid (hsw2.out.tail hst3)
    have hr3H := Lib.hid hr3
    have hvb3H := Lib.hid hvb3
    have c0 := cell_blk hr3.cell (i := 0) rfl; have c1 := cell_blk hr3.cell (i := 1) rfl; have fR := free_blk hr3.cell
    clear hW3 hst3 hr3 hvb3
    refine wp_region_held_drew (S := (fun w' => w'.cell? ⟨R, 0, none⟩ = some (.slice (some ⟨B, o, none⟩) b.length c) ∧ w'.cell? ⟨R, 1, none⟩ = some (.int .i64 (q : Int)) ∧ w'.cell? ⟨B, o + a, none⟩ = some (.int .u8 (y : Int)))) (by kernel_rfl) ⟨c0, c1, by rw [hyH.out]; exact hr3H.out.bytes a (by omega)⟩ (fun hHeld => ?_)
    clear c0 c1 fR
    obtain ⟨W4, hW4⟩ : ∃ W4, W4 = W3.drew := ⟨_, rfl⟩
    have hst4 : Step [] id id W3 W4 := by rw [hW4]; exact Step.drew
    rw [← hW4] at hHeld ⊢
    have hr4 := hr3H.out.step hst4
    have hvb4 := hst4.at hvb3H.out (by simp)
    have hvl4 := lt_of_block hvb4
    have c0 := cell_blk hr4.cell (i := 0) rfl; have c1 := cell_blk hr4.cell (i := 1) rfl; have fR := free_blk hr4.cell
    have p0 := cell_blk hvb4 (i := 0) rfl; have p1 := cell_blk hvb4 (i := 1) rfl; have p2 := cell_blk hvb4 (i := 2) rfl; have p3 := cell_blk hvb4 (i := 3) rfl; have p4 := cell_blk hvb4 (i := 4) rfl; have p5 := cell_blk hvb4 (i := 5) rfl; have pf := free_blk hvb4
    have hr4H := Lib.hid hr4
    have hvb4H := Lib.hid hvb4
    have hs4H := Lib.hid (hs3H.out.tail (hst4.mono (fun _ h => by cases h)))
    clear hW4 hst4 hr4 hvb4
    refine wpAnyH_take (i := 0) (v := ?_) rfl (by kernel_rfl) (by kernel_rfl) (by kernel_rfl) (fun _ _ _ h => h) (Or.inl ⟨by kernel_rfl, ?_⟩) hHeld ?_
    rotate_left
    · intro w' hSw; (try dsimp only at hSw); go_simp
      all_goals (with_reducible rfl)
    simp only [Act.put, List.getElem_toArray, List.getElem_cons_zero, List.getElem_cons_succ, List.setIfInBounds_toArray, List.set_cons_zero, List.set_cons_succ]
    refine wpAnyH_take (i := 1) (v := ?_) rfl (by kernel_rfl) (by kernel_rfl) (by kernel_rfl) (fun _ _ _ h => h) (Or.inl ⟨by kernel_rfl, ?_⟩) hHeld ?_
    rotate_left
    · intro w' hSw; (try dsimp only at hSw); go_simp
      all_goals (with_reducible rfl)
    simp only [Act.put, List.getElem_toArray, List.getElem_cons_zero, List.getElem_cons_succ, List.setIfInBounds_toArray, List.set_cons_zero, List.set_cons_succ]
    refine wpAnyH_take (i := 2) (v := ?_) rfl (by kernel_rfl) (by kernel_rfl) (by kernel_rfl) (fun _ _ _ h => h) (Or.inl ⟨by kernel_rfl, ?_⟩) hHeld ?_
    rotate_left
    · intro w' hSw; (try dsimp only at hSw); go_simp
      all_goals (with_reducible rfl)
    simp only [Act.put, List.getElem_toArray, List.getElem_cons_zero, List.getElem_cons_succ, List.setIfInBounds_toArray, List.set_cons_zero, List.set_cons_succ]
    refine wpAnyH_take (i := 3) (v := ?_) rfl (by kernel_rfl) (by kernel_rfl) (by kernel_rfl) (fun _ _ _ h => h) (Or.inl ⟨by kernel_rfl, ?_⟩) hHeld ?_
    rotate_left
    · intro w' hSw; (try dsimp only at hSw); go_simp
      all_goals (with_reducible rfl)
    simp only [Act.put, List.getElem_toArray, List.getElem_cons_zero, List.getElem_cons_succ, List.setIfInBounds_toArray, List.set_cons_zero, List.set_cons_succ]
    refine wpAnyH_take (i := 4) (v := ?_) rfl (by kernel_rfl) (by kernel_rfl) (by kernel_rfl) (fun _ _ _ h => h) (Or.inl ⟨by kernel_rfl, ?_⟩) hHeld ?_
    rotate_left
    · intro w' hSw; (try dsimp only at hSw); go_simp
      all_goals (with_reducible rfl)
    simp only [Act.put, List.getElem_toArray, List.getElem_cons_zero, List.getElem_cons_succ, List.setIfInBounds_toArray, List.set_cons_zero, List.set_cons_succ]
    refine wpAnyH_take (i := 5) (v := ?_) rfl (by kernel_rfl) (by kernel_rfl) (by kernel_rfl) (fun _ _ _ h => h) (Or.inl ⟨by kernel_rfl, ?_⟩) hHeld ?_
    rotate_left
    · intro w' hSw; (try dsimp only at hSw); go_simp
      all_goals (with_reducible rfl)
    simp only [Act.put, List.getElem_toArray, List.getElem_cons_zero, List.getElem_cons_succ, List.setIfInBounds_toArray, List.set_cons_zero, List.set_cons_succ]
    refine wpAnyH_take (i := 6) (v := ?_) rfl (by kernel_rfl) (by kernel_rfl) (by kernel_rfl) (fun _ _ _ h => h) (Or.inl ⟨by kernel_rfl, ?_⟩) hHeld ?_
    rotate_left
    · intro w' hSw; (try dsimp only at hSw); go_simp
      all_goals (with_reducible rfl)
    simp only [Act.put, List.getElem_toArray, List.getElem_cons_zero, List.getElem_cons_succ, List.setIfInBounds_toArray, List.set_cons_zero, List.set_cons_succ]
    refine wpAnyH_take (i := 7) (v := ?_) rfl (by kernel_rfl) (by kernel_rfl) (by kernel_rfl) (fun _ _ _ h => h) (Or.inl ⟨by kernel_rfl, ?_⟩) hHeld ?_
    rotate_left
    · intro w' hSw; (try dsimp only at hSw); go_simp
      all_goals (with_reducible rfl)
    simp only [Act.put, List.getElem_toArray, List.getElem_cons_zero, List.getElem_cons_succ, List.setIfInBounds_toArray, List.set_cons_zero, List.set_cons_succ]
    refine wpAnyH_take (i := 8) (v := ?_) rfl (by kernel_rfl) (by kernel_rfl) (by kernel_rfl) (fun _ _ _ h => h) (Or.inl ⟨by kernel_rfl, ?_⟩) hHeld ?_
    rotate_left
    · intro w' hSw; (try dsimp only at hSw); go_simp
      all_goals (with_reducible rfl)
    simp only [Act.put, List.getElem_toArray, List.getElem_cons_zero, List.getElem_cons_succ, List.setIfInBounds_toArray, List.set_cons_zero, List.set_cons_succ]
    refine wpAnyH_take (i := 9) (v := ?_) rfl (by kernel_rfl) (by kernel_rfl) (by kernel_rfl) (fun _ _ _ h => h) (Or.inl ⟨by kernel_rfl, ?_⟩) hHeld ?_
    rotate_left
    · intro w' hSw; (try dsimp only at hSw); go_simp
      all_goals (with_reducible rfl)
    simp only [Act.put, List.getElem_toArray, List.getElem_cons_zero, List.getElem_cons_succ, List.setIfInBounds_toArray, List.set_cons_zero, List.set_cons_succ]
    refine wpAnyH_take (i := 10) (v := ?_) rfl (by kernel_rfl) (by kernel_rfl) (by kernel_rfl) (fun _ _ _ h => h) (Or.inl ⟨by kernel_rfl, ?_⟩) hHeld ?_
    rotate_left
    · intro w' hSw; (try dsimp only at hSw); go_simp
      all_goals (with_reducible rfl)
    simp only [Act.put, List.getElem_toArray, List.getElem_cons_zero, List.getElem_cons_succ, List.setIfInBounds_toArray, List.set_cons_zero, List.set_cons_succ]
    refine wpAnyH_take (i := 11) (v := ?_) rfl (by kernel_rfl) (by kernel_rfl) (by kernel_rfl) (fun _ _ _ h => h) (Or.inl ⟨by kernel_rfl, ?_⟩) hHeld ?_
    rotate_left
    · intro w' hSw; (try dsimp only at hSw); go_simp
      all_goals (with_reducible rfl)
    simp only [Act.put, List.getElem_toArray, List.getElem_cons_zero, List.getElem_cons_succ, List.setIfInBounds_toArray, List.set_cons_zero, List.set_cons_succ]
    refine wpAnyH_take (i := 12) (v := ?_) rfl (by kernel_rfl) (by kernel_rfl) (by kernel_rfl) (fun _ _ _ h => h) (Or.inl ⟨by kernel_rfl, ?_⟩) hHeld ?_
    rotate_left
    · intro w' hSw; (try dsimp only at hSw); go_simp
      all_goals (with_reducible rfl)
    simp only [Act.put, List.getElem_toArray, List.getElem_cons_zero, List.getElem_cons_succ, List.setIfInBounds_toArray, List.set_cons_zero, List.set_cons_succ]
    refine wpAnyH_ready (rs := [13]) (by kernel_rfl) (by simp) ?_
    refine AllReadyH.cons (o := _) rfl (fun K hK => ?_) AllReadyH.nil
    go_simp
    have hg7 : W4.grownBy (set6 W4 w.heap.size (.int .i64 10) (.int .i64 (y : Int)) (.string ⟨#[]⟩) (.slice none 0 0) (.slice none 0 0) (.slice none 0 0)) (some w.heap.size) := set6_grown
    have hk7 := hg7.block R (lt_of_block hr4H.out.cell) (by simp; omega)
    have hk8 := hg7.block B hr4H.out.blt (by simp; omega)
    have hc4 : W4.cell? ⟨B, o + a, none⟩ = some (.int .u8 (y : Int)) := by rw [hyH.out]; exact hr4H.out.bytes a (by omega)
    change K _ (set6 W4 w.heap.size (.int .i64 10) (.int .i64 (y : Int)) (.string ⟨#[]⟩) (.slice none 0 0) (.slice none 0 0) (.slice none 0 0))
    refine hK.out _ _ ?_ (fun hHeld => ?_)
    · exact ⟨(World.cell?_of_block (a := ⟨R, 0, none⟩) hk7).trans c0, (World.cell?_of_block (a := ⟨R, 1, none⟩) hk7).trans c1, (World.cell?_of_block (a := ⟨B, o + a, none⟩) hk8).trans hc4⟩
    clear hK K hg7 hk7 hk8 hc4
    refine wpAnyH_done (by kernel_rfl) ?_ _
    go_wp2_with fail
    change bodyPost _ _ _ _ _ (set6 W4 w.heap.size (.int .i64 10) (.int .i64 (y : Int)) (.string ⟨#[]⟩) (.slice none 0 0) (.slice none 0 0) (.slice none 0 0))
    refine bodyPost_ret (results_to rfl rfl (set6_heap hvb4H.out)) rfl ?_
    rw [hres.out]
    exact rv_bad (hA.out.tail hs4H.out) hR hB hr4H.out
end Go.Proofs.YtbkmnhogfegmcaaDoor

/- bson: the reader reads texts and bytes. -/
import Derived.Test.YtbkmnhogfegmcaaDoorBsG3
set_option linter.unusedVariables false
set_option linter.unusedSimpArgs false
namespace Go.Proofs.YtbkmnhogfegmcaaDoor
open Go.RowKit


set_option maxRecDepth 100000 in
set_option maxHeartbeats 4000000 in
theorem rd_text {P : Nat → Prop} {w : World} {R B o c a : Nat} {b : Bs} (deep : Int) (rec_ : Bool → Nat → Res (List (Bs × Val))) (h : Rd w R B o c b a) (ht : Tabs P w) (hPR : ¬ P R) :
    Calls Tryd.prog 76 #[.pointer (some ⟨R, 0, none⟩), .int .i64 deep] w (DecP w R B o c b (decV b rec_ 2 a)) := by
  have hd : decV b rec_ 2 a = if b.length - a < 4 then .bad 2 else
    if signed 4 (numAt b a 4) < 1 then .bad 4 else
    if (b.length : Int) - (a + 4 : Nat) < signed 4 (numAt b a 4) then .bad 2 else
    if (b.drop (a + 4)).getD ((signed 4 (numAt b a 4)).toNat - 1) 1 ≠ 0 then .bad 4 else
    if utf8 ((b.drop (a + 4)).take ((signed 4 (numAt b a 4)).toNat - 1)) then .ok (.mk 5 0 ((b.drop (a + 4)).take ((signed 4 (numAt b a 4)).toNat - 1)) [] [] []) (a + 4 + (signed 4 (numAt b a 4)).toNat) else .bad 5 := rfl
  rw [hd]
  clear hd
  have hle := h.le
  have hB := h.blt
  have hR := lt_of_block h.cell
  have hne : w.heap.size ≠ R := by omega
  have hH := Lib.hid h
  have hcap := h.cap
  have hsm := h.small
  clear h
  have ht := Lib.hid (ht.grown (World.grownBy_alloc w (.cells #[.int .i64 0, .int .i64 0, (.string ⟨#[]⟩), (.slice none 0 0), (.slice none 0 0), (.slice none 0 0)] 27) none))
  by_cases hn : b.length - a < 4
  · rw [if_pos hn]
    go_enter Tryd.func76, Tryd.ntmps76
    go_wp2_with (go_at_call 26; refine (length_short _ (hH.out.step (Step.alloc _)).cell hsm hle (by omega)).mono ?_; rintro e w1 ⟨rfl, hs1⟩; have hs1H := Lib.hid hs1; clear hs1)
    exact ⟨rfl, ((Step.alloc _).tail hs1H.out).mono (fun _ h => by cases h), rfl⟩
  rw [if_neg hn]
  have hn4 : a + 4 ≤ b.length := by omega
  by_cases hlow : signed 4 (numAt b a 4) < 1
  · rw [if_pos hlow]
    have hlow := Lib.hid (show ¬ 1 ≤ signed 4 (numAt b a 4) by omega)
    go_enter Tryd.func76, Tryd.ntmps76
    go_wp2_with (go_at_call 26; refine (length_bad 1 (hH.out.step (Step.alloc _)) hn4 (by first | (have := hlow.out; omega) | omega)).mono ?_; rintro e w1 ⟨rfl, hs1⟩; have hs1H := Lib.hid hs1; clear hs1)
    exact ⟨rfl, ((Step.alloc _).tail hs1H.out), rfl⟩
  rw [if_neg hlow]
  obtain ⟨m, hm⟩ : ∃ m : Nat, signed 4 (numAt b a 4) = (m : Int) + 1 := ⟨(signed 4 (numAt b a 4) - 1).toNat, by omega⟩
  have hlow := Lib.hid (show 1 ≤ signed 4 (numAt b a 4) by omega)
  rw [hm]
  have hN := Lib.hid hm
  have hm1 := Lib.hid (show (m : Int) + 1 = ((m + 1 : Nat) : Int) by push_cast; rfl)
  have htn : ((m : Int) + 1).toNat = m + 1 := by omega
  rw [htn]
  clear hm htn
  by_cases hsh : (b.length : Int) - (a + 4 : Nat) < (m : Int) + 1
  · rw [if_pos hsh]
    go_enter Tryd.func76, Tryd.ntmps76
    go_wp2_with (first | (go_at_call 26; refine (length_ok 1 (hH.out.step (Step.alloc _)) hn4 (by first | (have := hlow.out; omega) | omega)).mono ?_; rintro e w1 ⟨rfl, hr1, hs1⟩; rw [hN.out]; have hr1H := Lib.hid hr1; have hs1H := Lib.hid hs1; clear hr1 hs1) | (go_at_call 74; refine (take_bad _ hr1H.out.cell hsm (by omega) (by push_cast at hsh ⊢; omega)).mono ?_; rintro e w2 ⟨rfl, hs2⟩; have hs2H := Lib.hid hs2; clear hs2))
    exact ⟨rfl, ((Step.alloc _).tail hs1H.out).tail (hs2H.out.mono (fun _ h => by cases h)), rfl⟩
  rw [if_neg hsh]
  have hfit : a + 4 + m + 1 ≤ b.length := by push_cast at hsh; omega
  have hget : (b.drop (a + 4)).getD (m + 1 - 1) 1 = b[a + 4 + m] := by
    rw [Nat.add_sub_cancel, List.getD_eq_getElem?_getD, List.getElem?_drop, List.getElem?_eq_getElem (by omega)]; rfl
  rw [hget]
  simp only [Nat.add_sub_cancel]
  have hsl := Lib.hid (take_len (b := b) (a := a + 4) (n := m) (by omega))
  obtain ⟨s, hs⟩ : ∃ s, s = (b.drop (a + 4)).take m := ⟨_, rfl⟩
  rw [← hs] at hsl ⊢
  have hsH := Lib.hid hs
  obtain ⟨C, hC⟩ : ∃ C : Int, (b[a + 4 + m].toNat : Int) = C := ⟨_, rfl⟩
  have hCe := Lib.hid hC
  have hC0 : b[a + 4 + m] = 0 ↔ C = 0 := by
    rw [← hC, ← UInt8.toNat_inj]; simp
  clear hsh hget hs hC
  have hb1 : (m : Int) ≤ ((c - (a + 4) : Nat) : Int) := by omega
  have hb2 : (0 : Int) ≤ (m : Int) := by omega
  by_cases hz : b[a + 4 + m] = 0
  rotate_left
  · rw [if_pos hz]
    have hC1 : ¬ C = 0 := fun h => hz (hC0.2 h)
    have hCd : (C == 0) = false := by rw [beq_eq_false_iff_ne]; exact hC1
    clear hC0
    go_enter Tryd.func76, Tryd.ntmps76
    go_wp2_with (first | (go_at_call 26; refine (length_ok 1 (hH.out.step (Step.alloc _)) hn4 (by first | (have := hlow.out; omega) | omega)).mono ?_; rintro e w1 ⟨rfl, hr1, hs1⟩; rw [hN.out]; have hr1H := Lib.hid hr1; have hs1H := Lib.hid hs1; clear hr1 hs1) | (go_at_call 74; rw [hm1.out]; refine (take_ok (m + 1) hr1H.out (by omega)).mono ?_; rintro e w2 ⟨⟨ad, rfl, had⟩, hr2, hs2⟩; obtain rfl := had (by omega); have hlast := hr2.bytes (a + 4 + m) (by omega); rw [hCe.out, ← Nat.add_assoc] at hlast; have hcv := bs_str B (o + (a + 4)) m (c - (a + 4)) s w2 hsl.out.symm (by rw [hsH.out]; exact hr2.lie (a + 4) m); have hvb := hs2.at (hs1H.out.at (heap_alloc_new w _) (by simp; exact hne)) (by simp; exact hne); have hvbH := Lib.hid hvb; have hr2H := Lib.hid hr2; have hs2H := Lib.hid hs2; clear hr2 hs2 hvb had) | (go_at_call 25; refine (must_bad _ _).mono ?_; rintro e w' ⟨rfl, rfl⟩))
    exact ⟨rfl, ((Step.alloc _).tail hs1H.out).tail hs2H.out, rfl⟩
  rw [if_neg (by simpa using hz)]
  obtain rfl := hC0.1 hz
  clear hC0
  cases hu : utf8 s
  · have huH := Lib.hid hu
    clear hu
    simp only [Bool.false_eq_true, if_false]
    go_enter Tryd.func76, Tryd.ntmps76
    go_wp2_with (first | (go_at_call 26; refine (length_ok 1 (hH.out.step (Step.alloc _)) hn4 (by first | (have := hlow.out; omega) | omega)).mono ?_; rintro e w1 ⟨rfl, hr1, hs1⟩; rw [hN.out]; have hr1H := Lib.hid hr1; have hs1H := Lib.hid hs1; clear hr1 hs1) | (go_at_call 74; rw [hm1.out]; refine (take_ok (m + 1) hr1H.out (by omega)).mono ?_; rintro e w2 ⟨⟨ad, rfl, had⟩, hr2, hs2⟩; obtain rfl := had (by omega); have hlast := hr2.bytes (a + 4 + m) (by omega); rw [hCe.out, ← Nat.add_assoc] at hlast; have hcv := bs_str B (o + (a + 4)) m (c - (a + 4)) s w2 hsl.out.symm (by rw [hsH.out]; exact hr2.lie (a + 4) m); have hvb := hs2.at (hs1H.out.at (heap_alloc_new w _) (by simp; exact hne)) (by simp; exact hne); have hvbH := Lib.hid hvb; have hr2H := Lib.hid hr2; have hs2H := Lib.hid hs2; clear hr2 hs2 hvb had) | (go_at_call 64; refine (bs_valid s (by have := hsl.out; omega) ((ht.out.one hs1H.out hPR).one hs2H.out hPR).utf).mono ?_; rintro e w3 ⟨rfl, hs3⟩; rw [huH.out]; have hvb := hs3.at hvbH.out (by simp); have p0 := cell_blk hvb (i := 0) rfl; have p1 := cell_blk hvb (i := 1) rfl; have p2 := cell_blk hvb (i := 2) rfl; have p3 := cell_blk hvb (i := 3) rfl; have p4 := cell_blk hvb (i := 4) rfl; have p5 := cell_blk hvb (i := 5) rfl; have pf := free_blk hvb; have hvb3H := Lib.hid hvb; have hs3H := Lib.hid hs3; clear hs3 hvb) | (go_at_call 25; (first | (with_reducible refine (must_ok _ _).mono ?_) | (with_reducible refine (must_bad _ _).mono ?_)); rintro e w' ⟨rfl, rfl⟩))
    exact ⟨rfl, (((Step.alloc _).tail hs1H.out).tail hs2H.out).tail (hs3H.out.mono (fun _ h => by cases h)), rfl⟩
  · have huH := Lib.hid hu
    clear hu
    simp only [if_true]
    go_enter Tryd.func76, Tryd.ntmps76
    go_wp2_with (first | (go_at_call 26; refine (length_ok 1 (hH.out.step (Step.alloc _)) hn4 (by first | (have := hlow.out; omega) | omega)).mono ?_; rintro e w1 ⟨rfl, hr1, hs1⟩; rw [hN.out]; have hr1H := Lib.hid hr1; have hs1H := Lib.hid hs1; clear hr1 hs1) | (go_at_call 74; rw [hm1.out]; refine (take_ok (m + 1) hr1H.out (by omega)).mono ?_; rintro e w2 ⟨⟨ad, rfl, had⟩, hr2, hs2⟩; obtain rfl := had (by omega); have hlast := hr2.bytes (a + 4 + m) (by omega); rw [hCe.out, ← Nat.add_assoc] at hlast; have hcv := bs_str B (o + (a + 4)) m (c - (a + 4)) s w2 hsl.out.symm (by rw [hsH.out]; exact hr2.lie (a + 4) m); have hvb := hs2.at (hs1H.out.at (heap_alloc_new w _) (by simp; exact hne)) (by simp; exact hne); have hvbH := Lib.hid hvb; have hr2H := Lib.hid hr2; have hs2H := Lib.hid hs2; clear hr2 hs2 hvb had) | (go_at_call 64; refine (bs_valid s (by have := hsl.out; omega) ((ht.out.one hs1H.out hPR).one hs2H.out hPR).utf).mono ?_; rintro e w3 ⟨rfl, hs3⟩; rw [huH.out]; have hvb := hs3.at hvbH.out (by simp); have p0 := cell_blk hvb (i := 0) rfl; have p1 := cell_blk hvb (i := 1) rfl; have p2 := cell_blk hvb (i := 2) rfl; have p3 := cell_blk hvb (i := 3) rfl; have p4 := cell_blk hvb (i := 4) rfl; have p5 := cell_blk hvb (i := 5) rfl; have pf := free_blk hvb; have hvb3H := Lib.hid hvb; have hs3H := Lib.hid hs3; clear hs3 hvb) | (go_at_call 25; refine (must_ok _ _).mono ?_; rintro e w' ⟨rfl, rfl⟩))
    change bodyPost _ _ _ _ _ (set6 w3 w.heap.size (.int .i64 5) (.int .i64 0) (.string (strOf s)) (.slice none 0 0) (.slice none 0 0) (.slice none 0 0))
    exact bodyPost_ret (results_cell4 rfl rfl (set6_heap hvb3H.out)) rfl (dec_fin ((hs1H.out.tail hs2H.out).tail (hs3H.out.mono (fun _ h => by cases h))) (hr2H.out.step hs3H.out) hne hB (VIs.flat s (by omega) (by omega) (by have := hsl.out; omega)))

set_option maxRecDepth 100000 in
set_option maxHeartbeats 4000000 in
theorem rd_raw {w : World} {R B o c a : Nat} {b : Bs} (deep : Int) (rec_ : Bool → Nat → Res (List (Bs × Val))) (h : Rd w R B o c b a) :
    Calls Tryd.prog 79 #[.pointer (some ⟨R, 0, none⟩), .int .i64 deep] w (DecP w R B o c b (decV b rec_ 5 a)) := by
  have hd : decV b rec_ 5 a = if b.length - a < 5 then .bad 2 else
    if signed 4 (numAt b a 4) < 0 then .bad 4 else
    if numAt b (a + 4) 1 ≠ 0 then .bad 4 else
    if (b.length : Int) - (a + 5 : Nat) < signed 4 (numAt b a 4) then .bad 2 else
    .ok (.mk 8 0 [] ((b.drop (a + 5)).take (signed 4 (numAt b a 4)).toNat) [] []) (a + 5 + (signed 4 (numAt b a 4)).toNat) := rfl
  rw [hd]
  clear hd
  have hle := h.le
  have hB := h.blt
  have hR := lt_of_block h.cell
  have hne : w.heap.size ≠ R := by omega
  have hH := Lib.hid h
  have hcap := h.cap
  have hsm := h.small
  clear h
  obtain ⟨W0, hW0⟩ : ∃ W0, W0 = w.alloc (.cells #[.int .i64 0, .int .i64 0, (.string ⟨#[]⟩), (.slice none 0 0), (.slice none 0 0), (.slice none 0 0)] 27) := ⟨_, rfl⟩
  have hA : Step [] id id w W0 := by rw [hW0]; exact Step.alloc _
  have hvb0 := Lib.hid (show W0.heap[w.heap.size]? = some (.cells #[.int .i64 0, .int .i64 0, (.string ⟨#[]⟩), (.slice none 0 0), (.slice none 0 0), (.slice none 0 0)] 27 (0, 0)) by rw [hW0]; exact heap_alloc_new w _)
  have hsz0 : w.heap.size < W0.heap.size := lt_of_block hvb0.out
  have hH0 := hH.out.step hA
  have k0 := cell_blk hH0.cell (i := 0) rfl
  have k1 := cell_blk hH0.cell (i := 1) rfl
  have hH0 := Lib.hid hH0
  have hAH := Lib.hid hA
  have hWH := Lib.hid hW0
  clear hA hW0
  have hw1 : IntKind.i64.wrap ((b.length : Int) - (a : Int)) = (b.length : Int) - (a : Int) := IntWalk.i64_in _ (by omega)
  by_cases hn : b.length - a < 5
  · rw [if_pos hn]
    have hd5 : decide ((5 : Int) ≤ (b.length : Int) - (a : Int)) = false := decide_eq_false (by omega)
    go_enter Tryd.func79, Tryd.ntmps79
    go_wp2_with fail
    rw [← hWH.out]
    refine wp_region_held_drew (S := fun w' => w'.cell? ⟨R, 0, none⟩ = some (.slice (some ⟨B, o, none⟩) b.length c) ∧ w'.cell? ⟨R, 1, none⟩ = some (.int .i64 a)) (by kernel_rfl) ⟨k0, k1⟩ (fun hHeld => ?_)
    refine wpAnyH_take (i := 0) (v := ?_) rfl (by kernel_rfl) (by kernel_rfl) (by kernel_rfl) (fun _ _ _ h => h) (Or.inl ⟨by kernel_rfl, ?_⟩) hHeld ?_
    rotate_left
    · intro w' hSw; (try dsimp only at hSw); go_simp
      all_goals (with_reducible rfl)
    simp only [Act.put, List.getElem_toArray, List.getElem_cons_zero, List.getElem_cons_succ, List.setIfInBounds_toArray, List.set_cons_zero, List.set_cons_succ]
    refine wpAnyH_take (i := 1) (v := ?_) rfl (by kernel_rfl) (by kernel_rfl) (by kernel_rfl) (fun _ _ _ h => h) (Or.inl ⟨by kernel_rfl, ?_⟩) hHeld ?_
    rotate_left
    · intro w' hSw; (try dsimp only at hSw); go_simp
      all_goals (with_reducible rfl)
    simp only [Act.put, List.getElem_toArray, List.getElem_cons_zero, List.getElem_cons_succ, List.setIfInBounds_toArray, List.set_cons_zero, List.set_cons_succ]
    refine wpAnyH_take (i := 2) (v := ?_) rfl (by kernel_rfl) (by kernel_rfl) (by kernel_rfl) (fun _ _ _ h => h) (Or.inl ⟨by kernel_rfl, ?_⟩) hHeld ?_
    rotate_left
    · intro w' hSw; (try dsimp only at hSw); go_simp
      all_goals (with_reducible rfl)
    simp only [Act.put, List.getElem_toArray, List.getElem_cons_zero, List.getElem_cons_succ, List.setIfInBounds_toArray, List.set_cons_zero, List.set_cons_succ]
    refine wpAnyH_take (i := 3) (v := ?_) rfl (by kernel_rfl) (by kernel_rfl) (by kernel_rfl) (fun _ _ _ h => h) (Or.inl ⟨by kernel_rfl, ?_⟩) hHeld ?_
    rotate_left
    · intro w' hSw; (try dsimp only at hSw); go_simp
      all_goals (with_reducible rfl)
    simp only [Act.put, List.getElem_toArray, List.getElem_cons_zero, List.getElem_cons_succ, List.setIfInBounds_toArray, List.set_cons_zero, List.set_cons_succ]
    refine wpAnyH_take (i := 4) (v := ?_) rfl (by kernel_rfl) (by kernel_rfl) (by kernel_rfl) (fun _ _ _ h => h) (Or.inl ⟨by kernel_rfl, ?_⟩) hHeld ?_
    rotate_left
    · intro w' hSw; (try dsimp only at hSw); go_simp
      all_goals (with_reducible rfl)
    simp only [Act.put, List.getElem_toArray, List.getElem_cons_zero, List.getElem_cons_succ, List.setIfInBounds_toArray, List.set_cons_zero, List.set_cons_succ]
    refine wpAnyH_take (i := 5) (v := ?_) rfl (by kernel_rfl) (by kernel_rfl) (by kernel_rfl) (fun _ _ _ h => h) (Or.inl ⟨by kernel_rfl, ?_⟩) hHeld ?_
    rotate_left
    · intro w' hSw; (try dsimp only at hSw); go_simp
      all_goals (with_reducible rfl)
    simp only [Act.put, List.getElem_toArray, List.getElem_cons_zero, List.getElem_cons_succ, List.setIfInBounds_toArray, List.set_cons_zero, List.set_cons_succ]
    refine wpAnyH_take (i := 6) (v := ?_) rfl (by kernel_rfl) (by kernel_rfl) (by kernel_rfl) (fun _ _ _ h => h) (Or.inl ⟨by kernel_rfl, ?_⟩) hHeld ?_
    rotate_left
    · intro w' hSw; (try dsimp only at hSw); go_simp
      all_goals (with_reducible rfl)
    simp only [Act.put, List.getElem_toArray, List.getElem_cons_zero, List.getElem_cons_succ, List.setIfInBounds_toArray, List.set_cons_zero, List.set_cons_succ]
    refine wpAnyH_take (i := 7) (v := ?_) rfl (by kernel_rfl) (by kernel_rfl) (by kernel_rfl) (fun _ _ _ h => h) (Or.inl ⟨by kernel_rfl, ?_⟩) hHeld ?_
    rotate_left
    · intro w' hSw; (try dsimp only at hSw); go_simp
      all_goals (with_reducible rfl)
    simp only [Act.put, List.getElem_toArray, List.getElem_cons_zero, List.getElem_cons_succ, List.setIfInBounds_toArray, List.set_cons_zero, List.set_cons_succ]
    refine wpAnyH_take (i := 8) (v := ?_) rfl (by kernel_rfl) (by kernel_rfl) (by kernel_rfl) (fun _ _ _ h => h) (Or.inl ⟨by kernel_rfl, ?_⟩) hHeld ?_
    rotate_left
    · intro w' hSw; (try dsimp only at hSw); go_simp
      all_goals (with_reducible rfl)
    simp only [Act.put, List.getElem_toArray, List.getElem_cons_zero, List.getElem_cons_succ, List.setIfInBounds_toArray, List.set_cons_zero, List.set_cons_succ]
    refine wpAnyH_take (i := 9) (v := ?_) rfl (by kernel_rfl) (by kernel_rfl) (by kernel_rfl) (fun _ _ _ h => h) (Or.inl ⟨by kernel_rfl, ?_⟩) hHeld ?_
    rotate_left
    · intro w' hSw; (try dsimp only at hSw); go_simp
      all_goals (with_reducible rfl)
    simp only [Act.put, List.getElem_toArray, List.getElem_cons_zero, List.getElem_cons_succ, List.setIfInBounds_toArray, List.set_cons_zero, List.set_cons_succ]
    refine wpAnyH_take (i := 10) (v := ?_) rfl (by kernel_rfl) (by kernel_rfl) (by kernel_rfl) (fun _ _ _ h => h) (Or.inl ⟨by kernel_rfl, ?_⟩) hHeld ?_
    rotate_left
    · intro w' hSw; (try dsimp only at hSw); go_simp
      all_goals (with_reducible rfl)
    simp only [Act.put, List.getElem_toArray, List.getElem_cons_zero, List.getElem_cons_succ, List.setIfInBounds_toArray, List.set_cons_zero, List.set_cons_succ]
    refine wpAnyH_ready (rs := [11]) (by kernel_rfl) (by simp) ?_
    refine AllReadyH.cons (o := _) rfl (fun K hK => ?_) AllReadyH.nil
    go_simp
    refine (must_bad 2 _).mono ?_
    rintro e w' ⟨rfl, rfl⟩
    exact ⟨rfl, (hAH.out.tail Step.drew).mono (fun _ h => by cases h), rfl⟩
  rw [if_neg hn]
  have hd5 : decide ((5 : Int) ≤ (b.length : Int) - (a : Int)) = true := decide_eq_true (by omega)
  have hn4 : a + 4 ≤ b.length := by omega
  have hfirst : ∀ nq, Rd (W0.drewN nq) R B o c b a := fun nq => hH0.out.step (Step.drewN W0 nq)
  have hfH := Lib.hid hfirst
  clear hfirst
  by_cases hlow : signed 4 (numAt b a 4) < 0
  · rw [if_pos hlow]
    have hlow := Lib.hid (show ¬ 0 ≤ signed 4 (numAt b a 4) by omega)
    go_enter Tryd.func79, Tryd.ntmps79
    go_wp2_with fail
    rw [← hWH.out]
    go_quiet ((go_at_call 25; exact quietL (must_ok 2 _)))
    go_wp2_with (go_at_call 26; refine (length_bad 0 (hfH.out _) hn4 (by first | (have := hlow.out; omega) | omega)).mono ?_; rintro e w1 ⟨rfl, hs1⟩; have hs1H := Lib.hid hs1; clear hs1)
    exact ⟨rfl, ((hAH.out.tail (Step.drewN W0 _)).mono (fun _ h => by cases h)).tail hs1H.out, rfl⟩
  rw [if_neg hlow]
  obtain ⟨n, hm⟩ : ∃ n : Nat, signed 4 (numAt b a 4) = (n : Int) := ⟨(signed 4 (numAt b a 4)).toNat, by omega⟩
  have hlow := Lib.hid (show 0 ≤ signed 4 (numAt b a 4) by omega)
  rw [hm]
  have hN := Lib.hid hm
  rw [Int.toNat_natCast]
  clear hm
  obtain ⟨S, hS⟩ : ∃ S, numAt b (a + 4) 1 = S := ⟨_, rfl⟩
  rw [hS]
  have hSb := Lib.hid hS
  clear hS
  by_cases hS0 : S = 0
  rotate_left
  · rw [if_pos hS0]
    have hS1 : ¬ (S : Int) = 0 := by omega
    have hSd : ((S : Int) == 0) = false := by rw [beq_eq_false_iff_ne]; exact hS1
    go_enter Tryd.func79, Tryd.ntmps79
    go_wp2_with fail
    rw [← hWH.out]
    go_quiet ((go_at_call 25; exact quietL (must_ok 2 _)))
    go_wp2_with (first | (go_at_call 26; refine (length_ok 0 (hfH.out _) hn4 (by first | (have := hlow.out; omega) | omega)).mono ?_; rintro e w1 ⟨rfl, hr1, hs1⟩; rw [hN.out]; have hr1H := Lib.hid hr1; have hs1H := Lib.hid hs1; clear hr1 hs1) | (go_at_call 47; refine (number_ok 1 hr1H.out (by omega) (by omega) (by omega)).mono ?_; rintro e w2 ⟨rfl, hr2, hs2⟩; rw [hSb.out]; have hr2H := Lib.hid hr2; have hs2H := Lib.hid hs2; clear hr2 hs2) | (go_at_call 25; refine (must_bad _ _).mono ?_; rintro e w' ⟨rfl, rfl⟩))
    exact ⟨rfl, (((hAH.out.tail (Step.drewN W0 _)).mono (fun _ h => by cases h)).tail hs1H.out).tail hs2H.out, rfl⟩
  subst hS0
  rw [if_neg (by simp)]
  by_cases hsh : (b.length : Int) - (a + 5 : Nat) < (n : Int)
  · rw [if_pos hsh]
    have hsh2 : b.length < a + 5 + n := by push_cast at hsh; omega
    clear hsh
    go_enter Tryd.func79, Tryd.ntmps79
    go_wp2_with fail
    rw [← hWH.out]
    go_quiet ((go_at_call 25; exact quietL (must_ok 2 _)))
    go_wp2_with (first | (go_at_call 26; refine (length_ok 0 (hfH.out _) hn4 (by first | (have := hlow.out; omega) | omega)).mono ?_; rintro e w1 ⟨rfl, hr1, hs1⟩; rw [hN.out]; have hr1H := Lib.hid hr1; have hs1H := Lib.hid hs1; clear hr1 hs1) | (go_at_call 47; refine (number_ok 1 hr1H.out (by omega) (by omega) (by omega)).mono ?_; rintro e w2 ⟨rfl, hr2, hs2⟩; rw [hSb.out]; have hr2H := Lib.hid hr2; have hs2H := Lib.hid hs2; clear hr2 hs2) | (go_at_call 25; refine (must_ok _ _).mono ?_; rintro e w' ⟨rfl, rfl⟩) | (go_at_call 74; refine (take_bad _ hr2H.out.cell hsm (by omega) (by push_cast; omega)).mono ?_; rintro e w3 ⟨rfl, hs3⟩; have hs3H := Lib.hid hs3; clear hs3))
    exact ⟨rfl, ((((hAH.out.tail (Step.drewN W0 _)).mono (fun _ h => by cases h)).tail hs1H.out).tail hs2H.out).tail (hs3H.out.mono (fun _ h => by cases h)), rfl⟩
  rw [if_neg hsh]
  have hfit : a + 5 + n ≤ b.length := by push_cast at hsh; omega
  have hsl := Lib.hid (take_len (b := b) (a := a + 5) (n := n) hfit)
  clear hsh
  go_enter Tryd.func79, Tryd.ntmps79
  go_wp2_with fail
  rw [← hWH.out]
  go_quiet ((go_at_call 25; exact quietL (must_ok 2 _)))
  go_wp2_with (first | (go_at_call 26; refine (length_ok 0 (hfH.out _) hn4 (by first | (have := hlow.out; omega) | omega)).mono ?_; rintro e w1 ⟨rfl, hr1, hs1⟩; rw [hN.out]; have hr1H := Lib.hid hr1; have hs1H := Lib.hid hs1; clear hr1 hs1) | (go_at_call 47; refine (number_ok 1 hr1H.out (by omega) (by omega) (by omega)).mono ?_; rintro e w2 ⟨rfl, hr2, hs2⟩; rw [hSb.out]; have hr2H := Lib.hid hr2; have hs2H := Lib.hid hs2; clear hr2 hs2) | (go_at_call 25; refine (must_ok _ _).mono ?_; rintro e w' ⟨rfl, rfl⟩) | (go_at_call 74; refine (take_ok n hr2H.out (by omega)).mono ?_; rintro e w3 ⟨⟨ad, rfl, had⟩, hr3, hs3⟩; have hlie := Lib.hid (show Lie w3 ad ((b.drop (a + 5)).take n) from (by rcases Nat.eq_zero_or_pos n with h0 | h0; (subst h0; intro i hi; simp at hi); (rw [had h0]; exact hr3.lie (a + 5) n))); have hvb := hs3.at (hs2H.out.at (hs1H.out.at hvb0.out (by simp; exact hne)) (by simp; exact hne)) (by simp; exact hne); have hl3 := hs3.size; have hl2 := hs2H.out.size; have hl1 := hs1H.out.size; have hvbH := Lib.hid hvb; have hr3H := Lib.hid hr3; have hs3H := Lib.hid hs3; clear hr3 hs3 hvb had) | (go_at_call 36; refine (bs_clone _ n _ _ w3 hsl.out.symm (by omega) hlie.out).mono ?_; rintro e w4 ⟨v, rfl, hb4, -, hs4, hv4⟩; obtain ⟨va, vc, rfl⟩ := hb4.shape; rw [hsl.out] at *; have hvb2 := hs4.at hvbH.out (by simp); have p0 := cell_blk hvb2 (i := 0) rfl; have p1 := cell_blk hvb2 (i := 1) rfl; have p2 := cell_blk hvb2 (i := 2) rfl; have p3 := cell_blk hvb2 (i := 3) rfl; have p4 := cell_blk hvb2 (i := 4) rfl; have p5 := cell_blk hvb2 (i := 5) rfl; have pf := free_blk hvb2; have hvb4H := Lib.hid hvb2; have hb4H := Lib.hid hb4; have hs4H := Lib.hid hs4; clear hb4 hs4 hv4 hvb2))
  change bodyPost _ _ _ _ _ (set6 w4 w.heap.size (.int .i64 8) (.int .i64 0) (.string ⟨#[]⟩) (.slice va n vc) (.slice none 0 0) (.slice none 0 0))
  have hstep : Step [R] id id (w.alloc (.cells #[.int .i64 0, .int .i64 0, (.string ⟨#[]⟩), (.slice none 0 0), (.slice none 0 0), (.slice none 0 0)] 27)) w4 := by
    rw [← hWH.out]
    exact ((((Step.drewN W0 _).tail hs1H.out).tail hs2H.out).tail hs3H.out).tail (hs4H.out.mono (fun _ h => by cases h))
  change W0.heap.size ≤ w1.heap.size at hl1
  refine bodyPost_ret (results_cell4 rfl rfl (set6_heap hvb4H.out)) rfl (dec_fin hstep ?_ hne hB (VIs.bytes (by omega) (hb4H.out.keep (fun k hk => by omega) (fun _ _ _ => rfl)) (by have := List.length_take_le n (b.drop (a + 5)); omega)))
  exact hr3H.out.step hs4H.out
end Go.Proofs.YtbkmnhogfegmcaaDoor

/- bson: Decode. -/
import Derived.Test.YtbkmnhogfegmcaaDoorBsG8
import Derived.Test.YtbkmnhogfegmcaaDoorBsS4
set_option linter.unusedVariables false
set_option linter.unusedSimpArgs false
namespace Go.Proofs.YtbkmnhogfegmcaaDoor
open Go.RowKit

/-- What the inner part of Decode comes to. -/
def partRes (b : Bs) : Res (List (Bs × Val)) :=
  if b.length < 4 then .bad 2 else if signed 4 (numAt b 0 4) < 5 then .bad 4 else if signed 4 (numAt b 0 4) ≠ b.length then .bad 4 else decDoc b 34 1 false 0
theorem decode_part (b : Bs) : decode b = if 65536 < b.length then .bad 3 else (partRes b).bind fun f a => .ok (.doc f) a := by
  unfold decode partRes
  split
  · rfl
  split
  · rfl
  split
  · rfl
  split <;> rfl
def PartP (w : World) (V : Nat) : Res (List (Bs × Val)) → Ending → World → Prop
  | .ok f _, e, w' => Step [V] id id w w' ∧ e = done0 ∧ ∃ ad cap, w'.heap[V]? = some (.cells #[.int .i64 6, .int .i64 0, .string ⟨#[]⟩, .slice none 0 0, .slice ad f.length cap, .slice none 0 0] 27 (0, 0)) ∧ FIs (fun k => w.heap.size ≤ k) w' f ad 0 ∧ f.length ≤ cap ∧ (ad = none → cap = 0) ∧ f.length ≤ 65536
  | .bad n, e, w' => Step [V] id id w w' ∧ e = broke n

set_option maxRecDepth 100000 in
set_option maxHeartbeats 4000000 in
theorem decode_inner {P : Nat → Prop} {w : World} {bc V c : Nat} {ad : Option Addr} {b : Bs} (hbc : w.heap[bc]? = some (.cells #[.slice ad b.length c] 22 (0, 0)))
    (hV : w.heap[V]? = some (.cells #[.int .i64 6, .int .i64 0, .string ⟨#[]⟩, .slice none 0 0, .slice none 0 0, .slice none 0 0] 27 (0, 0))) (hb : BIn P w (.slice ad b.length c) b) (hl : b.length ≤ 65536) (ht : Tabs P w) (hPV : ¬ P V) (hbV : bc ≠ V) :
    Calls Tryd.prog 24 #[.pointer (some ⟨bc, 0, none⟩), .pointer (some ⟨V, 0, none⟩)] w (PartP w V (partRes b)) := by
  have q0 := cell_blk hbc (i := 0) rfl
  have hbclt : bc < w.drew.heap.size := lt_of_block hbc
  have hbclt0 : bc < w.heap.size := lt_of_block hbc
  have hVlt := lt_of_block hV
  obtain ⟨W0, hW0⟩ : ∃ W0, W0 = (w.alloc (.cells #[.slice ad b.length c, .int .i64 0] 62)).drew := ⟨_, rfl⟩
  have hWH := Lib.hid hW0
  have hR0 : W0.heap[w.heap.size]? = some (.cells #[.slice ad b.length c, .int .i64 0] 62 (0, 0)) := by rw [hW0]; exact drew_blk (heap_alloc_new w _)
  have hg0 : w.grownBy W0 none := by rw [hW0]; exact (World.grownBy_alloc w _ none).trans (grown_drew _ none)
  have hsz0 := hg0.size
  have hs0 : Step [] id id w W0 := .grown hg0 (fun _ h => by cases h)
  clear hW0
  unfold partRes
  by_cases h4 : b.length < 4
  · rw [if_pos h4]
    have hR0 := Lib.hid hR0
    clear hb ht hV hbc hg0
    go_enter Tryd.func24, Tryd.ntmps24
    go_wp2_with fail
    refine wp_region_held_drew (S := fun w' => w'.cell? ⟨bc, 0, none⟩ = some (.slice ad b.length c)) (by kernel_rfl) q0 (fun hHeld => ?_)
    refine wpAnyH_take (i := 0) (v := ?_) rfl (by kernel_rfl) (by kernel_rfl) (by kernel_rfl) (fun _ _ _ h => h) (Or.inl ⟨by kernel_rfl, ?_⟩) hHeld ?_
    rotate_left
    · intro w' hSw; (try dsimp only at hSw); go_simp
      all_goals (with_reducible rfl)
    simp only [Act.put, List.getElem_toArray, List.getElem_cons_zero, List.getElem_cons_succ, List.setIfInBounds_toArray, List.set_cons_zero, List.set_cons_succ]
    refine wpAnyH_take (i := 1) (v := ?_) rfl (by kernel_rfl) (by kernel_rfl) (by kernel_rfl) (fun _ _ _ h => h) (Or.inl ⟨by kernel_rfl, ?_⟩) hHeld ?_
    rotate_left
    · intro w' hSw; (try dsimp only at hSw); go_simp
      all_goals (with_reducible rfl)
    simp only [Act.put, List.getElem_toArray, List.getElem_cons_zero, List.getElem_cons_succ, List.setIfInBounds_toArray, List.set_cons_zero, List.set_cons_succ]
    refine wpAnyH_take (i := 4) (v := ?_) rfl (by kernel_rfl) (by kernel_rfl) (by kernel_rfl) (fun _ _ _ h => h) (Or.inl ⟨by kernel_rfl, ?_⟩) hHeld ?_
    rotate_left
    · intro w' hSw; (try dsimp only at hSw); go_simp
      all_goals (with_reducible rfl)
    simp only [Act.put, List.getElem_toArray, List.getElem_cons_zero, List.getElem_cons_succ, List.setIfInBounds_toArray, List.set_cons_zero, List.set_cons_succ]
    refine wpAnyH_take (i := 5) (v := ?_) rfl (by kernel_rfl) (by kernel_rfl) (by kernel_rfl) (fun _ _ _ h => h) (Or.inl ⟨by kernel_rfl, ?_⟩) hHeld ?_
    rotate_left
    · intro w' hSw; (try dsimp only at hSw); go_simp
      all_goals (with_reducible rfl)
    simp only [Act.put, List.getElem_toArray, List.getElem_cons_zero, List.getElem_cons_succ, List.setIfInBounds_toArray, List.set_cons_zero, List.set_cons_succ]
    refine wpAnyH_ready (rs := [2]) (by kernel_rfl) (by simp) ?_
    refine AllReadyH.cons (o := _) rfl (fun K hK => ?_) AllReadyH.nil
    go_simp
    refine hK.out _ _ ?_ (fun hHeld => ?_)
    · exact (World.cell?_alloc_past _ _ _ hbclt).trans q0
    clear hK K
    refine wpAnyH_ready (rs := [3]) (by kernel_rfl) (by simp) ?_
    refine AllReadyH.cons (o := _) rfl (fun K hK => ?_) AllReadyH.nil
    go_simp
    rw [← hWH.out]
    refine (length_short (a := 0) 5 hR0.out (by omega) (by omega) (by omega)).mono ?_
    rintro e w1 ⟨rfl, hs1⟩
    exact ⟨rfl, (hs0.tail hs1).mono (fun _ h => by cases h), rfl⟩
  rw [if_neg h4]
  obtain ⟨B, o, rfl, hcl, hPB, hcells⟩ : ∃ B o, ad = some ⟨B, o, none⟩ ∧ b.length ≤ c ∧ P B ∧ ∀ i (h : i < b.length), w.cell? ⟨B, o + i, none⟩ = some (.int .u8 (b[i].toNat : Int)) := by
    rcases hb with ⟨a, c', e, hnil, _⟩ | ⟨B, o, c', e, h1, h2, h3⟩
    · rw [hnil] at h4; simp at h4
    · injection e with e1 e2 e3
      subst e3
      exact ⟨B, o, e1, h1, h2, h3⟩
  have hBlt : B < w.heap.size := World.block_lt_of_cell? w _ (hcells 0 (by omega))
  have hrd0 : Rd W0 w.heap.size B o c b 0 := ⟨hR0, fun i hi => by rw [cell_of_blk_eq (hg0.block B hBlt (by simp))]; exact hcells i hi, Nat.zero_le _, hcl, by omega, hl, Nat.lt_of_lt_of_le hBlt hsz0⟩
  have hq00 := Lib.hid (show W0.cell? ⟨bc, 0, none⟩ = some (.slice (some ⟨B, o, none⟩) b.length c) by rw [cell_of_blk_eq (hg0.block bc hbclt0 (by simp))]; exact q0)
  have hrd0H := Lib.hid hrd0
  have htH := Lib.hid ht
  have hVH := Lib.hid hV
  have hcellsH := Lib.hid hcells
  have hs0H := Lib.hid hs0
  have hbcH := Lib.hid hbc
  clear hb ht hV hbc hg0 hrd0 hcells hR0 hs0
  obtain ⟨S, hS⟩ : ∃ S, signed 4 (numAt b 0 4) = S := ⟨_, rfl⟩
  rw [hS]
  have hSH := Lib.hid hS
  clear hS
  by_cases hlow : S < 5
  · rw [if_pos hlow]
    go_enter Tryd.func24, Tryd.ntmps24
    go_wp2_with fail
    refine wp_region_held_drew (S := fun w' => w'.cell? ⟨bc, 0, none⟩ = some (.slice (some ⟨B, o, none⟩) b.length c)) (by kernel_rfl) q0 (fun hHeld => ?_)
    refine wpAnyH_take (i := 0) (v := ?_) rfl (by kernel_rfl) (by kernel_rfl) (by kernel_rfl) (fun _ _ _ h => h) (Or.inl ⟨by kernel_rfl, ?_⟩) hHeld ?_
    rotate_left
    · intro w' hSw; (try dsimp only at hSw); go_simp
      all_goals (with_reducible rfl)
    simp only [Act.put, List.getElem_toArray, List.getElem_cons_zero, List.getElem_cons_succ, List.setIfInBounds_toArray, List.set_cons_zero, List.set_cons_succ]
    refine wpAnyH_take (i := 1) (v := ?_) rfl (by kernel_rfl) (by kernel_rfl) (by kernel_rfl) (fun _ _ _ h => h) (Or.inl ⟨by kernel_rfl, ?_⟩) hHeld ?_
    rotate_left
    · intro w' hSw; (try dsimp only at hSw); go_simp
      all_goals (with_reducible rfl)
    simp only [Act.put, List.getElem_toArray, List.getElem_cons_zero, List.getElem_cons_succ, List.setIfInBounds_toArray, List.set_cons_zero, List.set_cons_succ]
    refine wpAnyH_take (i := 4) (v := ?_) rfl (by kernel_rfl) (by kernel_rfl) (by kernel_rfl) (fun _ _ _ h => h) (Or.inl ⟨by kernel_rfl, ?_⟩) hHeld ?_
    rotate_left
    · intro w' hSw; (try dsimp only at hSw); go_simp
      all_goals (with_reducible rfl)
    simp only [Act.put, List.getElem_toArray, List.getElem_cons_zero, List.getElem_cons_succ, List.setIfInBounds_toArray, List.set_cons_zero, List.set_cons_succ]
    refine wpAnyH_take (i := 5) (v := ?_) rfl (by kernel_rfl) (by kernel_rfl) (by kernel_rfl) (fun _ _ _ h => h) (Or.inl ⟨by kernel_rfl, ?_⟩) hHeld ?_
    rotate_left
    · intro w' hSw; (try dsimp only at hSw); go_simp
      all_goals (with_reducible rfl)
    simp only [Act.put, List.getElem_toArray, List.getElem_cons_zero, List.getElem_cons_succ, List.setIfInBounds_toArray, List.set_cons_zero, List.set_cons_succ]
    refine wpAnyH_ready (rs := [2]) (by kernel_rfl) (by simp) ?_
    refine AllReadyH.cons (o := _) rfl (fun K hK => ?_) AllReadyH.nil
    go_simp
    refine hK.out _ _ ?_ (fun hHeld => ?_)
    · exact (World.cell?_alloc_past _ _ _ hbclt).trans q0
    clear hK K
    refine wpAnyH_ready (rs := [3]) (by kernel_rfl) (by simp) ?_
    refine AllReadyH.cons (o := _) rfl (fun K hK => ?_) AllReadyH.nil
    go_simp
    rw [← hWH.out]
    refine (length_bad 5 hrd0H.out (by omega) (by rw [hSH.out]; omega)).mono ?_
    rintro e w1 ⟨rfl, hs1⟩
    exact ⟨rfl, (hs0H.out.tailNew hs1 (by simp)).mono (fun _ h => by cases h), rfl⟩
  rw [if_neg hlow]
  by_cases hne : S ≠ b.length
  · rw [if_pos hne]
    have hd : (S == (b.length : Int)) = false := by rw [beq_eq_false_iff_ne]; exact hne
    go_enter Tryd.func24, Tryd.ntmps24
    go_wp2_with fail
    refine wp_region_held_drew (S := fun w' => w'.cell? ⟨bc, 0, none⟩ = some (.slice (some ⟨B, o, none⟩) b.length c)) (by kernel_rfl) q0 (fun hHeld => ?_)
    refine wpAnyH_take (i := 0) (v := ?_) rfl (by kernel_rfl) (by kernel_rfl) (by kernel_rfl) (fun _ _ _ h => h) (Or.inl ⟨by kernel_rfl, ?_⟩) hHeld ?_
    rotate_left
    · intro w' hSw; (try dsimp only at hSw); go_simp
      all_goals (with_reducible rfl)
    simp only [Act.put, List.getElem_toArray, List.getElem_cons_zero, List.getElem_cons_succ, List.setIfInBounds_toArray, List.set_cons_zero, List.set_cons_succ]
    refine wpAnyH_take (i := 1) (v := ?_) rfl (by kernel_rfl) (by kernel_rfl) (by kernel_rfl) (fun _ _ _ h => h) (Or.inl ⟨by kernel_rfl, ?_⟩) hHeld ?_
    rotate_left
    · intro w' hSw; (try dsimp only at hSw); go_simp
      all_goals (with_reducible rfl)
    simp only [Act.put, List.getElem_toArray, List.getElem_cons_zero, List.getElem_cons_succ, List.setIfInBounds_toArray, List.set_cons_zero, List.set_cons_succ]
    refine wpAnyH_take (i := 4) (v := ?_) rfl (by kernel_rfl) (by kernel_rfl) (by kernel_rfl) (fun _ _ _ h => h) (Or.inl ⟨by kernel_rfl, ?_⟩) hHeld ?_
    rotate_left
    · intro w' hSw; (try dsimp only at hSw); go_simp
      all_goals (with_reducible rfl)
    simp only [Act.put, List.getElem_toArray, List.getElem_cons_zero, List.getElem_cons_succ, List.setIfInBounds_toArray, List.set_cons_zero, List.set_cons_succ]
    refine wpAnyH_take (i := 5) (v := ?_) rfl (by kernel_rfl) (by kernel_rfl) (by kernel_rfl) (fun _ _ _ h => h) (Or.inl ⟨by kernel_rfl, ?_⟩) hHeld ?_
    rotate_left
    · intro w' hSw; (try dsimp only at hSw); go_simp
      all_goals (with_reducible rfl)
    simp only [Act.put, List.getElem_toArray, List.getElem_cons_zero, List.getElem_cons_succ, List.setIfInBounds_toArray, List.set_cons_zero, List.set_cons_succ]
    refine wpAnyH_ready (rs := [2]) (by kernel_rfl) (by simp) ?_
    refine AllReadyH.cons (o := _) rfl (fun K hK => ?_) AllReadyH.nil
    go_simp
    refine hK.out _ _ ?_ (fun hHeld => ?_)
    · exact (World.cell?_alloc_past _ _ _ hbclt).trans q0
    clear hK K
    refine wpAnyH_ready (rs := [3]) (by kernel_rfl) (by simp) ?_
    refine AllReadyH.cons (o := _) rfl (fun K hK => ?_) AllReadyH.nil
    go_simp
    rw [← hWH.out]
    refine (length_ok 5 hrd0H.out (by omega) (by rw [hSH.out]; omega)).mono ?_
    rintro e w1 ⟨rfl, hr1, hs1⟩
    rw [hSH.out]
    have hqb1 : w1.cell? ⟨bc, 0, none⟩ = some (.slice (some ⟨B, o, none⟩) b.length c) := by
      rw [cell_of_blk_eq (hs1.keep bc (Nat.lt_of_lt_of_le hbclt0 hsz0) (by simp; omega)).2]; exact hq00.out
    have hr1H := Lib.hid hr1
    have hs1H := Lib.hid hs1
    clear hr1 hs1
    go_wp2_with fail
    refine hK.out _ _ ?_ (fun hHeld => ?_)
    · exact hqb1
    clear hK K
    refine wpAnyH_take (i := 6) (v := ?_) rfl (by kernel_rfl) (by kernel_rfl) (by kernel_rfl) (fun _ _ _ h => h) (Or.inl ⟨by kernel_rfl, ?_⟩) hHeld ?_
    rotate_left
    · intro w' hSw; (try dsimp only at hSw); go_simp
      all_goals (with_reducible rfl)
    simp only [Act.put, List.getElem_toArray, List.getElem_cons_zero, List.getElem_cons_succ, List.setIfInBounds_toArray, List.set_cons_zero, List.set_cons_succ]
    refine wpAnyH_ready (rs := [7]) (by kernel_rfl) (by simp) ?_
    refine AllReadyH.cons (o := _) rfl (fun K hK => ?_) AllReadyH.nil
    go_simp
    refine (must_bad 4 _).mono ?_
    rintro e w' ⟨rfl, rfl⟩
    exact ⟨rfl, (hs0H.out.tailNew hs1H.out (by simp)).mono (fun _ h => by cases h), rfl⟩
  rw [if_neg hne]
  have hSe : S = b.length := by
    rcases Classical.em (S = b.length) with e | e
    · exact e
    · exact absurd e hne
  subst hSe
  clear hne
  obtain ⟨D, hD⟩ : ∃ D, decDoc b 34 1 false 0 = D := ⟨_, rfl⟩
  rw [hD]
  have hDH := Lib.hid hD
  clear hD
  go_enter Tryd.func24, Tryd.ntmps24
  go_wp2_with fail
  refine wp_region_held_drew (S := fun w' => w'.cell? ⟨bc, 0, none⟩ = some (.slice (some ⟨B, o, none⟩) b.length c)) (by kernel_rfl) q0 (fun hHeld => ?_)
  refine wpAnyH_take (i := 0) (v := ?_) rfl (by kernel_rfl) (by kernel_rfl) (by kernel_rfl) (fun _ _ _ h => h) (Or.inl ⟨by kernel_rfl, ?_⟩) hHeld ?_
  rotate_left
  · intro w' hSw; (try dsimp only at hSw); go_simp
    all_goals (with_reducible rfl)
  simp only [Act.put, List.getElem_toArray, List.getElem_cons_zero, List.getElem_cons_succ, List.setIfInBounds_toArray, List.set_cons_zero, List.set_cons_succ]
  refine wpAnyH_take (i := 1) (v := ?_) rfl (by kernel_rfl) (by kernel_rfl) (by kernel_rfl) (fun _ _ _ h => h) (Or.inl ⟨by kernel_rfl, ?_⟩) hHeld ?_
  rotate_left
  · intro w' hSw; (try dsimp only at hSw); go_simp
    all_goals (with_reducible rfl)
  simp only [Act.put, List.getElem_toArray, List.getElem_cons_zero, List.getElem_cons_succ, List.setIfInBounds_toArray, List.set_cons_zero, List.set_cons_succ]
  refine wpAnyH_take (i := 4) (v := ?_) rfl (by kernel_rfl) (by kernel_rfl) (by kernel_rfl) (fun _ _ _ h => h) (Or.inl ⟨by kernel_rfl, ?_⟩) hHeld ?_
  rotate_left
  · intro w' hSw; (try dsimp only at hSw); go_simp
    all_goals (with_reducible rfl)
  simp only [Act.put, List.getElem_toArray, List.getElem_cons_zero, List.getElem_cons_succ, List.setIfInBounds_toArray, List.set_cons_zero, List.set_cons_succ]
  refine wpAnyH_take (i := 5) (v := ?_) rfl (by kernel_rfl) (by kernel_rfl) (by kernel_rfl) (fun _ _ _ h => h) (Or.inl ⟨by kernel_rfl, ?_⟩) hHeld ?_
  rotate_left
  · intro w' hSw; (try dsimp only at hSw); go_simp
    all_goals (with_reducible rfl)
  simp only [Act.put, List.getElem_toArray, List.getElem_cons_zero, List.getElem_cons_succ, List.setIfInBounds_toArray, List.set_cons_zero, List.set_cons_succ]
  refine wpAnyH_ready (rs := [2]) (by kernel_rfl) (by simp) ?_
  refine AllReadyH.cons (o := _) rfl (fun K hK => ?_) AllReadyH.nil
  go_simp
  refine hK.out _ _ ?_ (fun hHeld => ?_)
  · exact (World.cell?_alloc_past _ _ _ hbclt).trans q0
  clear hK K
  refine wpAnyH_ready (rs := [3]) (by kernel_rfl) (by simp) ?_
  refine AllReadyH.cons (o := _) rfl (fun K hK => ?_) AllReadyH.nil
  go_simp
  rw [← hWH.out]
  refine (length_ok 5 hrd0H.out (by omega) (by rw [hSH.out]; omega)).mono ?_
  rintro e w1 ⟨rfl, hr1, hs1⟩
  rw [hSH.out]
  have hqb1 : w1.cell? ⟨bc, 0, none⟩ = some (.slice (some ⟨B, o, none⟩) b.length c) := by
    rw [cell_of_blk_eq (hs1.keep bc (Nat.lt_of_lt_of_le hbclt0 hsz0) (by simp; omega)).2]; exact hq00.out
  have hr1H := Lib.hid hr1
  have hs1H := Lib.hid hs1
  clear hr1 hs1
  go_wp2_with fail
  refine hK.out _ _ ?_ (fun hHeld => ?_)
  · exact hqb1
  clear hK K
  refine wpAnyH_take (i := 6) (v := ?_) rfl (by kernel_rfl) (by kernel_rfl) (by kernel_rfl) (fun _ _ _ h => h) (Or.inl ⟨by kernel_rfl, ?_⟩) hHeld ?_
  rotate_left
  · intro w' hSw; (try dsimp only at hSw); go_simp
    all_goals (with_reducible rfl)
  simp only [Act.put, List.getElem_toArray, List.getElem_cons_zero, List.getElem_cons_succ, List.setIfInBounds_toArray, List.set_cons_zero, List.set_cons_succ]
  refine wpAnyH_ready (rs := [7]) (by kernel_rfl) (by simp) ?_
  refine AllReadyH.cons (o := _) rfl (fun K hK => ?_) AllReadyH.nil
  go_simp
  refine (must_ok 4 _).mono ?_
  rintro e w' ⟨rfl, rfl⟩
  go_wp2_with fail
  refine hK.out _ _ ?_ (fun hHeld => ?_)
  · exact hqb1
  clear hK K
  refine wpAnyH_done (by kernel_rfl) ?_ _
  have hs1 : Step [] id id w w1 := hs0H.out.tailNew hs1H.out (by simp)
  obtain ⟨W2, hW2⟩ : ∃ W2, W2 = w1.alloc (.cells #[.slice (some ⟨B, o, none⟩) b.length c, .int .i64 0] 62) := ⟨_, rfl⟩
  have hR2 : W2.heap[w1.heap.size]? = some (.cells #[.slice (some ⟨B, o, none⟩) b.length c, .int .i64 0] 62 (0, 0)) := by rw [hW2]; exact heap_alloc_new w1 _
  have hs2 : Step [] id id w W2 := by rw [hW2]; exact hs1.tail (Step.alloc _)
  have hsz1 := hs1.size
  have hrd2 : Rd W2 w1.heap.size B o c b 0 := ⟨hR2, fun i hi => by rw [cell_of_blk_eq (hs2.keep B hBlt (by simp)).2]; exact hcellsH.out i hi, Nat.zero_le _, hcl, by omega, hl, Nat.lt_of_lt_of_le hBlt hs2.size⟩
  have hPR : ¬ P w1.heap.size := fun h => by have := htH.out.lt _ h; omega
  have hc := rd_all 34 P W2 w1.heap.size B o c b 0 1 false (by omega) (by omega) hrd2 (htH.out.quiet hs2) hPR
  rw [hDH.out] at hc
  have hcH := Lib.hid hc
  have hs2H := Lib.hid hs2
  have hs1H2 := Lib.hid hs1
  have hWH2 := Lib.hid hW2
  clear hc hs2 hs1 hW2 hR2 hrd2 hHeld
  cases D with
  | bad n =>
    have hccH := hcH
    go_wp2_with (go_at_call 27; rw [← hWH2.out]; refine hccH.out.mono ?_; rintro e w3 ⟨hs3, rfl⟩; have hs3H := Lib.hid hs3; clear hs3)
    exact ⟨rfl, hs2H.out.mono (fun _ h => by cases h) |>.tailNew hs3H.out (by simp; omega), rfl⟩
  | ok f a' =>
    have hfl := dec_len hDH.out
    have hccH := hcH
    obtain ⟨n, hn⟩ : ∃ n, n = f.length := ⟨_, rfl⟩
    have hnH := Lib.hid hn
    clear hn
    go_wp2_with (go_at_call 27; rw [← hWH2.out]; refine hccH.out.mono ?_; rintro e w3 ⟨hs3, fad, fcap, rfl, hFI, hcap, hnil, hr3⟩; rw [← hnH.out] at hcap ⊢; have hV3 := hs3.at (hs2H.out.at hVH.out (by simp)) (by simp; omega); have p4 := cell_blk hV3 (i := 4) rfl; have pf := free_blk hV3 4; have hV3H := Lib.hid hV3; have hs3H := Lib.hid hs3; have hFIH := Lib.hid hFI; have hcapH := Lib.hid hcap; have hnilH := Lib.hid hnil; clear hs3 hFI hcap hnil hr3 hV3)
    go_end0
    have hn2 := hnH.out
    subst hn2
    have hset : w3.grownBy (w3.setCell ⟨V, 4, none⟩ (.slice fad f.length fcap)) (some V) := ⟨rfl, rfl, rfl, by simp [World.setCell], fun k _ hk => Below.heap_setCell _ _ _ _ (fun e => hk (by rw [e]))⟩
    refine ⟨?_, rfl, fad, fcap, ?_, ?_, hcapH.out, hnilH.out, by omega⟩
    · exact ((hs2H.out.mono (T2 := [V]) (fun _ h => by cases h)).tailNew hs3H.out (by simp; omega)).tail (.grown hset (fun k hk => by cases hk; simp))
    · have := set_blk hV3H.out 4 (.slice fad f.length fcap)
      simpa using this
    · have hsz2 := hs2H.out.size
      exact FIs.keep (fun k hk => by omega) (fun k hk hl => hset.block k hl (by simp; omega)) _ _ _ hFIH.out
end Go.Proofs.YtbkmnhogfegmcaaDoor

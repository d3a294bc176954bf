/- Accumulators: a sum takes a value. -/
import Derived.Test.YtembpajlllnncaaGreatDoorAcP
set_option linter.unusedVariables false
set_option linter.unusedSimpArgs false
namespace Go.Proofs.YtembpajlllnncaaGreatDoor
open Go.RowKit

theorem StC.step {w w' : World} {S : Nat} {K many size : Int} {v0 v1 v2 v3 v4 v5 : Value} {told : Bool} {T : List Nat} (h : StC w S K many v0 v1 v2 v3 v4 v5 size told) (hs : Step T id id w w') (hT : S ∉ T) : StC w' S K many v0 v1 v2 v3 v4 v5 size told := hs.at h hT
set_option maxRecDepth 100000 in
set_option maxHeartbeats 4000000 in
/-- What is no number is let pass. -/
theorem sum_other {w : World} {S : Nat} {k n : Int} {s b f l : Value} (hk : ¬ (k = 3 ∨ k = 4)) : Calls Tryz.prog 21 #[.pointer (some ⟨S, 0, none⟩), .agg #[.int .i64 k, .int .i64 n, s, b, f, l]] w fun e w' => e = .returned (.int .i64 0) ∧ Step [] id id w w' := by
 have h3 : (k != 3) = true := by rw [bne_iff_ne]; omega
 have h4 : (k != 4) = true := by rw [bne_iff_ne]; omega
 clear hk
 go_enter Tryz.func21, Tryz.ntmps21
 go_wp2_with fail
 go_ret
 exact ⟨rfl, Step.alloc _⟩
/-- A sum takes a number: it is added, or it would be too great. -/
def SumA (S : Nat) (many k0 n0 k n : Int) (w : World) (e : Ending) (w' : World) : Prop :=
 if inR (n0 + n) then e = .returned (.int .i64 0) ∧ Step [S] id id w w' ∧ StC w' S 1 many (.int .i64 (if k0 = 4 ∨ k = 4 then 4 else kindI (n0 + n))) (.int .i64 (n0 + n)) (.string ⟨#[]⟩) (.slice none 0 0) (.slice none 0 0) (.slice none 0 0) 0 false
 else e = .returned (.int .i64 10) ∧ Step [] id id w w'
set_option maxRecDepth 100000 in
set_option maxHeartbeats 4000000 in
theorem sum_num {w : World} {S : Nat} {many k0 n0 k n : Int} {s b f l : Value} (h : StC w S 1 many (.int .i64 k0) (.int .i64 n0) (.string ⟨#[]⟩) (.slice none 0 0) (.slice none 0 0) (.slice none 0 0) 0 false) (hk0 : k0 = 3 ∨ k0 = 4) (hn0 : inR n0) (hk : k = 3 ∨ k = 4) (hn : inR n) :
  Calls Tryz.prog 21 #[.pointer (some ⟨S, 0, none⟩), .agg #[.int .i64 k, .int .i64 n, s, b, f, l]] w (SumA S many k0 n0 k n w) := by
 have hl := lt_of_block h
 have hadd := Lib.hid (fun (W : World) => num_add (s1 := (.string ⟨#[]⟩)) (b1 := (.slice none 0 0)) (f1 := (.slice none 0 0)) (l1 := (.slice none 0 0)) (s2 := s) (b2 := b) (f2 := f) (l2 := l) W hk0 hk hn0 hn)
 have hc : (k != 3 && k != 4) = false := by rcases hk with rfl | rfl <;> rfl
 obtain ⟨W1, hW1⟩ : ∃ W1, W1 = w.alloc (.cells #[.int .i64 k, .int .i64 n, s, b, f, l] 35) := ⟨_, rfl⟩
 have hs1 : Step [] id id w W1 := by rw [hW1]; exact Step.alloc _
 have hS1 := hs1.at h (by simp)
 have hB1 : W1.heap[w.heap.size]? = some (.cells #[.int .i64 k, .int .i64 n, s, b, f, l] 35 (0, 0)) := by rw [hW1]; exact heap_alloc_new w _
 have hW1H := Lib.hid hW1
 have hs1H := Lib.hid hs1
 have hSH := Lib.hid hS1
 have hBH := Lib.hid hB1
 have hkH := Lib.hid hk
 have hadd2 : ∃ X0 X1 ER : Int, ((inR (n0 + n) ∧ ER = 0 ∧ X0 = (if k0 = 4 ∨ k = 4 then 4 else kindI (n0 + n)) ∧ X1 = n0 + n) ∨ (¬ inR (n0 + n) ∧ ER = 10)) ∧
   ∀ W, Calls Tryz.prog 38 #[.agg #[.int .i64 k0, .int .i64 n0, (.string ⟨#[]⟩), (.slice none 0 0), (.slice none 0 0), (.slice none 0 0)], .agg #[.int .i64 k, .int .i64 n, s, b, f, l]] W fun e w' => e = .returned (.tuple #[.agg #[.int .i64 X0, .int .i64 X1, (.string ⟨#[]⟩), (.slice none 0 0), (.slice none 0 0), (.slice none 0 0)], .int .i64 ER]) ∧ Step [] id id W w' := by
  by_cases hr : inR (n0 + n)
  ·refine ⟨_, _, 0, .inl ⟨hr, rfl, rfl, rfl⟩, fun W => (hadd.out W).mono ?_⟩
   rintro e w' ⟨rfl, hs⟩
   unfold sumC
   rw [if_pos hr, if_pos hr]
   exact ⟨rfl, hs⟩
  ·refine ⟨0, 0, 10, .inr ⟨hr, rfl⟩, fun W => (hadd.out W).mono ?_⟩
   rintro e w' ⟨rfl, hs⟩
   unfold sumC
   rw [if_neg hr, if_neg hr]
   exact ⟨rfl, hs⟩
 clear hadd
 obtain ⟨X0, X1, ER, hER, hadd⟩ := hadd2
 have hadd := Lib.hid hadd
 have hER := Lib.hid hER
 have hBn : w.heap.size ≠ S := by omega
 clear h hk0 hn0 hn hW1 hs1 hS1 hB1 hc
 rcases hk with rfl | rfl
 ·go_enter Tryz.func21, Tryz.ntmps21
  go_wp2_with fail
  rw [← hW1H.out]
  have c2 := cell_blk hSH.out (i := 2) rfl
  have c3 := cell_blk hSH.out (i := 3) rfl
  have c4 := cell_blk hSH.out (i := 4) rfl
  have c5 := cell_blk hSH.out (i := 5) rfl
  have c6 := cell_blk hSH.out (i := 6) rfl
  have c7 := cell_blk hSH.out (i := 7) rfl
  obtain ⟨b0, b1, b2, b3, b4, b5⟩ := cells6A hBH.out
  have hall := Lib.hid (fun (W : World) (T : List Nat) (hs : Step T id id W1 W) (h1 : S ∉ T) (h2 : w.heap.size ∉ T) =>
   And.intro (cell_blk (hs.at hSH.out h1) (i := 2) rfl) (And.intro (cell_blk (hs.at hSH.out h1) (i := 3) rfl) (And.intro (cell_blk (hs.at hSH.out h1) (i := 4) rfl) (And.intro (cell_blk (hs.at hSH.out h1) (i := 5) rfl) (And.intro (cell_blk (hs.at hSH.out h1) (i := 6) rfl) (And.intro (cell_blk (hs.at hSH.out h1) (i := 7) rfl) (cells6A (hs.at hBH.out h2))))))))
  refine wp_region_held_drew (S := fun w' => w'.cell? ⟨S, 2, none⟩ = some (.int .i64 k0) ∧ w'.cell? ⟨S, 3, none⟩ = some (.int .i64 n0) ∧ w'.cell? ⟨S, 4, none⟩ = some (.string ⟨#[]⟩) ∧ w'.cell? ⟨S, 5, none⟩ = some (.slice none 0 0) ∧ w'.cell? ⟨S, 6, none⟩ = some (.slice none 0 0) ∧ w'.cell? ⟨S, 7, none⟩ = some (.slice none 0 0) ∧
   w'.cell? ⟨w.heap.size, 0, none⟩ = some (.int .i64 3) ∧ w'.cell? ⟨w.heap.size, 1, none⟩ = some (.int .i64 n) ∧ w'.cell? ⟨w.heap.size, 2, none⟩ = some s ∧ w'.cell? ⟨w.heap.size, 3, none⟩ = some b ∧ w'.cell? ⟨w.heap.size, 4, none⟩ = some f ∧ w'.cell? ⟨w.heap.size, 5, none⟩ = some l) (by kernel_rfl) ⟨c2, c3, c4, c5, c6, c7, b0, b1, b2, b3, b4, b5⟩ (fun hHeld => ?_)
  refine tkH 0 ?_ rfl (by kernel_rfl) (fun _ _ _ h => h) ?_ hHeld ?_
  rotate_left
  ·intro w' hSw; (try dsimp only at hSw); go_simp
   all_goals (with_reducible rfl)
  simp only [zP, zO, zA, zB, zC, zD, zE, zF]
  refine tkH 1 ?_ rfl (by kernel_rfl) (fun _ _ _ h => h) ?_ hHeld ?_
  rotate_left
  ·intro w' hSw; (try dsimp only at hSw); go_simp
   all_goals (with_reducible rfl)
  simp only [zP, zO, zA, zB, zC, zD, zE, zF]
  refine tkH 2 ?_ rfl (by kernel_rfl) (fun _ _ _ h => h) ?_ hHeld ?_
  rotate_left
  ·intro w' hSw; (try dsimp only at hSw); go_simp
   all_goals (with_reducible rfl)
  simp only [zP, zO, zA, zB, zC, zD, zE, zF]
  refine tkH 3 ?_ rfl (by kernel_rfl) (fun _ _ _ h => h) ?_ hHeld ?_
  rotate_left
  ·intro w' hSw; (try dsimp only at hSw); go_simp
   all_goals (with_reducible rfl)
  simp only [zP, zO, zA, zB, zC, zD, zE, zF]
  refine tkH 4 ?_ rfl (by kernel_rfl) (fun _ _ _ h => h) ?_ hHeld ?_
  rotate_left
  ·intro w' hSw; (try dsimp only at hSw); go_simp
   all_goals (with_reducible rfl)
  simp only [zP, zO, zA, zB, zC, zD, zE, zF]
  refine wpAnyH_ready (rs := [5, 9]) (by kernel_rfl) (by simp) ?_
  refine AllReadyH.cons (o := _) rfl (fun K hK => ?_) (AllReadyH.cons (o := _) rfl (fun K hK => ?_) AllReadyH.nil)
  ·go_simp
   refine (hadd.out _).mono ?_
   rintro e w4 ⟨rfl, hs4⟩
   have hs14 : Step [] id id W1 w4 := Step.drew.tail hs4
   go_wp2_with fail
   refine hK.out _ _ ?_ (fun hHeld => ?_)
   ·exact hall.out _ _ hs14 (by simp) (by simp)
   clear hK K
   refine tkH 6 ?_ rfl (by kernel_rfl) (fun _ _ _ h => h) ?_ hHeld ?_
   rotate_left
   ·intro w' hSw; (try dsimp only at hSw); go_simp
    all_goals (with_reducible rfl)
   simp only [zP, zO, zA, zB, zC, zD, zE, zF]
   refine tkH 7 ?_ rfl (by kernel_rfl) (fun _ _ _ h => h) ?_ hHeld ?_
   rotate_left
   ·intro w' hSw; (try dsimp only at hSw); go_simp
    all_goals (with_reducible rfl)
   simp only [zP, zO, zA, zB, zC, zD, zE, zF]
   refine tkH 8 ?_ rfl (by kernel_rfl) (fun _ _ _ h => h) ?_ hHeld ?_
   rotate_left
   ·intro w' hSw; (try dsimp only at hSw); go_simp
    all_goals (with_reducible rfl)
   simp only [zP, zO, zA, zB, zC, zD, zE, zF]
   refine wpAnyH_ready (rs := [9]) (by kernel_rfl) (by simp) ?_
   refine AllReadyH.cons (o := _) rfl (fun K hK => ?_) AllReadyH.nil
   go_simp
   obtain ⟨W5, hW5⟩ : ∃ W5, W5 = w4.alloc (.cells #[.int .i64 0, .int .i64 0, (.string ⟨#[]⟩), (.slice none 0 0), (.slice none 0 0), (.slice none 0 0)] 35) := ⟨_, rfl⟩
   have hZ5 : W5.heap[w4.heap.size]? = some (.cells #[.int .i64 0, .int .i64 0, (.string ⟨#[]⟩), (.slice none 0 0), (.slice none 0 0), (.slice none 0 0)] 35 (0, 0)) := by rw [hW5]; exact heap_alloc_new w4 _
   have hs15 : Step [] id id W1 W5 := by rw [hW5]; exact hs14.tail (Step.alloc _)
   have hV5 : W1.heap.size ≤ w4.heap.size := hs14.size
   rw [← hW5]
   clear hW5
   refine hK.out _ _ ?_ (fun hHeld => ?_)
   ·exact hall.out _ _ hs15 (by simp) (by simp)
   clear hK K
   have hSl := lt_of_block hSH.out
   have hBl := lt_of_block hBH.out
   obtain ⟨z0, z1, z2, z3, z4, z5⟩ := cells6A hZ5
   have fz := free_blk hZ5
   have lz := lt_of_block hZ5
   refine wpAnyH_ready (rs := [10]) (by kernel_rfl) (by simp) ?_
   refine AllReadyH.cons (o := _) rfl (fun K hK => ?_) AllReadyH.nil
   go_simp
   have hg6 : W5.grownBy (set6 W5 w4.heap.size (.int .i64 X0) (.int .i64 X1) (.string ⟨#[]⟩) (.slice none 0 0) (.slice none 0 0) (.slice none 0 0)) (some w4.heap.size) := set6_grown
   change K _ (set6 W5 w4.heap.size (.int .i64 X0) (.int .i64 X1) (.string ⟨#[]⟩) (.slice none 0 0) (.slice none 0 0) (.slice none 0 0))
   obtain ⟨W6, hW6⟩ : ∃ W6, W6 = set6 W5 w4.heap.size (.int .i64 X0) (.int .i64 X1) (.string ⟨#[]⟩) (.slice none 0 0) (.slice none 0 0) (.slice none 0 0) := ⟨_, rfl⟩
   have hX6 : W6.heap[w4.heap.size]? = some (.cells #[.int .i64 X0, .int .i64 X1, (.string ⟨#[]⟩), (.slice none 0 0), (.slice none 0 0), (.slice none 0 0)] 35 (0, 0)) := by rw [hW6]; exact set6_heap hZ5
   rw [← hW6] at hg6 ⊢
   have hs56 : Step [w4.heap.size] id id W5 W6 := .grown hg6 (fun k hk => by cases hk; simp)
   have hs16 : Step [] id id W1 W6 := hs15.tailNew hs56 (fun r hr => .inr (by rw [List.mem_singleton] at hr; rw [hr]; exact hV5))
   clear hW6
   refine hK.out _ _ ?_ (fun hHeld => ?_)
   ·exact hall.out _ _ hs16 (by simp) (by simp)
   clear hK K z0 z1 z2 z3 z4 z5 fz lz hg6 hs56
   refine tkH 11 ?_ rfl (by kernel_rfl) (fun _ _ _ h => h) ?_ hHeld ?_
   rotate_left
   ·intro w' hSw; (try dsimp only at hSw); go_simp
    all_goals (with_reducible rfl)
   simp only [zP, zO, zA, zB, zC, zD, zE, zF]
   refine wpAnyH_done (by kernel_rfl) ?_ _
   have hS6 := hs16.at hSH.out (by simp)
   have fS := free_blk hS6
   have c2 := cell_blk hS6 (i := 2) rfl
   have c3 := cell_blk hS6 (i := 3) rfl
   have c4 := cell_blk hS6 (i := 4) rfl
   have c5 := cell_blk hS6 (i := 5) rfl
   have c6 := cell_blk hS6 (i := 6) rfl
   have c7 := cell_blk hS6 (i := 7) rfl
   obtain ⟨x0, x1, x2, x3, x4, x5⟩ := cells6A hX6
   have lX := lt_of_block hX6
   have lS := lt_of_block hS6
   have hSX : ¬ S = w4.heap.size := by omega
   have hXS : ¬ w4.heap.size = S := by omega
   have hS6H := Lib.hid hS6
   have hs16H := Lib.hid hs16
   clear hS6 hs16 hX6 hs15 hZ5
   rcases hER.out with ⟨hr, rfl, hX0, hX1⟩ | ⟨hr, rfl⟩
   ·have hrH := Lib.hid (And.intro hr (And.intro hX0 hX1))
    clear hr hX0 hX1
    go_wp2_with fail
    go_ret
    obtain ⟨hr, hX0, hX1⟩ := hrH.out
    unfold SumA
    rw [if_pos hr]
    have h2 := set_blk hS6H.out 2 (.int .i64 X0)
    have h3 := set_blk h2 3 (.int .i64 X1)
    have h4 := set_blk h3 4 (.string ⟨#[]⟩)
    have h5 := set_blk h4 5 (.slice none 0 0)
    have h6 := set_blk h5 6 (.slice none 0 0)
    have h7 := set_blk h6 7 (.slice none 0 0)
    refine ⟨rfl, ((hs1H.out.tail hs16H.out).mono (fun _ h => by cases h)).tail ((((((Step.set _ _ (by simp)).tail (Step.set _ _ (by simp))).tail (Step.set _ _ (by simp))).tail (Step.set _ _ (by simp))).tail (Step.set _ _ (by simp))).tail (Step.set _ _ (by simp))), ?_⟩
    unfold StC
    simp only [hX0, hX1] at h7 ⊢
    simpa using h7
   ·have hrH := Lib.hid hr
    clear hr
    go_wp2_with fail
    go_ret
    unfold SumA
    rw [if_neg hrH.out]
    exact ⟨rfl, hs1H.out.tail hs16H.out⟩
  ·go_simp
   obtain ⟨W4, hW4⟩ : ∃ W4, W4 = (W1.alloc (.cells #[.int .i64 0, .int .i64 0, (.string ⟨#[]⟩), (.slice none 0 0), (.slice none 0 0), (.slice none 0 0)] 35)).drew := ⟨_, rfl⟩
   have hZ4 : W4.heap[W1.heap.size]? = some (.cells #[.int .i64 0, .int .i64 0, (.string ⟨#[]⟩), (.slice none 0 0), (.slice none 0 0), (.slice none 0 0)] 35 (0, 0)) := by rw [hW4]; exact heap_alloc_new W1 _
   have hs14 : Step [] id id W1 W4 := by rw [hW4]; exact (Step.alloc _).tail Step.drew
   rw [← hW4]
   clear hW4
   refine hK.out _ _ ?_ (fun hHeld => ?_)
   ·exact hall.out _ _ hs14 (by simp) (by simp)
   clear hK K
   refine wpAnyH_ready (rs := [5]) (by kernel_rfl) (by simp) ?_
   refine AllReadyH.cons (o := _) rfl (fun K hK => ?_) AllReadyH.nil
   go_simp
   refine (hadd.out _).mono ?_
   rintro e W5 ⟨rfl, hs45⟩
   have hZ5 := hs45.at hZ4 (by simp)
   have hs15 := hs14.tail hs45
   have hV5 : W1.heap.size ≤ W1.heap.size := Nat.le_refl _
   go_wp2_with fail
   refine hK.out _ _ ?_ (fun hHeld => ?_)
   ·exact hall.out _ _ hs15 (by simp) (by simp)
   clear hK K hs45 hZ4 hs14
   refine tkH 6 ?_ rfl (by kernel_rfl) (fun _ _ _ h => h) ?_ hHeld ?_
   rotate_left
   ·intro w' hSw; (try dsimp only at hSw); go_simp
    all_goals (with_reducible rfl)
   simp only [zP, zO, zA, zB, zC, zD, zE, zF]
   refine tkH 7 ?_ rfl (by kernel_rfl) (fun _ _ _ h => h) ?_ hHeld ?_
   rotate_left
   ·intro w' hSw; (try dsimp only at hSw); go_simp
    all_goals (with_reducible rfl)
   simp only [zP, zO, zA, zB, zC, zD, zE, zF]
   refine tkH 8 ?_ rfl (by kernel_rfl) (fun _ _ _ h => h) ?_ hHeld ?_
   rotate_left
   ·intro w' hSw; (try dsimp only at hSw); go_simp
    all_goals (with_reducible rfl)
   simp only [zP, zO, zA, zB, zC, zD, zE, zF]
   have hSl := lt_of_block hSH.out
   have hBl := lt_of_block hBH.out
   obtain ⟨z0, z1, z2, z3, z4, z5⟩ := cells6A hZ5
   have fz := free_blk hZ5
   have lz := lt_of_block hZ5
   refine wpAnyH_ready (rs := [10]) (by kernel_rfl) (by simp) ?_
   refine AllReadyH.cons (o := _) rfl (fun K hK => ?_) AllReadyH.nil
   go_simp
   have hg6 : W5.grownBy (set6 W5 W1.heap.size (.int .i64 X0) (.int .i64 X1) (.string ⟨#[]⟩) (.slice none 0 0) (.slice none 0 0) (.slice none 0 0)) (some W1.heap.size) := set6_grown
   change K _ (set6 W5 W1.heap.size (.int .i64 X0) (.int .i64 X1) (.string ⟨#[]⟩) (.slice none 0 0) (.slice none 0 0) (.slice none 0 0))
   obtain ⟨W6, hW6⟩ : ∃ W6, W6 = set6 W5 W1.heap.size (.int .i64 X0) (.int .i64 X1) (.string ⟨#[]⟩) (.slice none 0 0) (.slice none 0 0) (.slice none 0 0) := ⟨_, rfl⟩
   have hX6 : W6.heap[W1.heap.size]? = some (.cells #[.int .i64 X0, .int .i64 X1, (.string ⟨#[]⟩), (.slice none 0 0), (.slice none 0 0), (.slice none 0 0)] 35 (0, 0)) := by rw [hW6]; exact set6_heap hZ5
   rw [← hW6] at hg6 ⊢
   have hs56 : Step [W1.heap.size] id id W5 W6 := .grown hg6 (fun k hk => by cases hk; simp)
   have hs16 : Step [] id id W1 W6 := hs15.tailNew hs56 (fun r hr => .inr (by rw [List.mem_singleton] at hr; rw [hr]; exact hV5))
   clear hW6
   refine hK.out _ _ ?_ (fun hHeld => ?_)
   ·exact hall.out _ _ hs16 (by simp) (by simp)
   clear hK K z0 z1 z2 z3 z4 z5 fz lz hg6 hs56
   refine tkH 11 ?_ rfl (by kernel_rfl) (fun _ _ _ h => h) ?_ hHeld ?_
   rotate_left
   ·intro w' hSw; (try dsimp only at hSw); go_simp
    all_goals (with_reducible rfl)
   simp only [zP, zO, zA, zB, zC, zD, zE, zF]
   refine wpAnyH_done (by kernel_rfl) ?_ _
   have hS6 := hs16.at hSH.out (by simp)
   have fS := free_blk hS6
   have c2 := cell_blk hS6 (i := 2) rfl
   have c3 := cell_blk hS6 (i := 3) rfl
   have c4 := cell_blk hS6 (i := 4) rfl
   have c5 := cell_blk hS6 (i := 5) rfl
   have c6 := cell_blk hS6 (i := 6) rfl
   have c7 := cell_blk hS6 (i := 7) rfl
   obtain ⟨x0, x1, x2, x3, x4, x5⟩ := cells6A hX6
   have lX := lt_of_block hX6
   have lS := lt_of_block hS6
   have hSX : ¬ S = W1.heap.size := by omega
   have hXS : ¬ W1.heap.size = S := by omega
   have hS6H := Lib.hid hS6
   have hs16H := Lib.hid hs16
   clear hS6 hs16 hX6 hs15 hZ5
   rcases hER.out with ⟨hr, rfl, hX0, hX1⟩ | ⟨hr, rfl⟩
   ·have hrH := Lib.hid (And.intro hr (And.intro hX0 hX1))
    clear hr hX0 hX1
    go_wp2_with fail
    go_ret
    obtain ⟨hr, hX0, hX1⟩ := hrH.out
    unfold SumA
    rw [if_pos hr]
    have h2 := set_blk hS6H.out 2 (.int .i64 X0)
    have h3 := set_blk h2 3 (.int .i64 X1)
    have h4 := set_blk h3 4 (.string ⟨#[]⟩)
    have h5 := set_blk h4 5 (.slice none 0 0)
    have h6 := set_blk h5 6 (.slice none 0 0)
    have h7 := set_blk h6 7 (.slice none 0 0)
    refine ⟨rfl, ((hs1H.out.tail hs16H.out).mono (fun _ h => by cases h)).tail ((((((Step.set _ _ (by simp)).tail (Step.set _ _ (by simp))).tail (Step.set _ _ (by simp))).tail (Step.set _ _ (by simp))).tail (Step.set _ _ (by simp))).tail (Step.set _ _ (by simp))), ?_⟩
    unfold StC
    simp only [hX0, hX1] at h7 ⊢
    simpa using h7
   ·have hrH := Lib.hid hr
    clear hr
    go_wp2_with fail
    go_ret
    unfold SumA
    rw [if_neg hrH.out]
    exact ⟨rfl, hs1H.out.tail hs16H.out⟩
 ·go_enter Tryz.func21, Tryz.ntmps21
  go_wp2_with fail
  rw [← hW1H.out]
  have c2 := cell_blk hSH.out (i := 2) rfl
  have c3 := cell_blk hSH.out (i := 3) rfl
  have c4 := cell_blk hSH.out (i := 4) rfl
  have c5 := cell_blk hSH.out (i := 5) rfl
  have c6 := cell_blk hSH.out (i := 6) rfl
  have c7 := cell_blk hSH.out (i := 7) rfl
  obtain ⟨b0, b1, b2, b3, b4, b5⟩ := cells6A hBH.out
  have hall := Lib.hid (fun (W : World) (T : List Nat) (hs : Step T id id W1 W) (h1 : S ∉ T) (h2 : w.heap.size ∉ T) =>
   And.intro (cell_blk (hs.at hSH.out h1) (i := 2) rfl) (And.intro (cell_blk (hs.at hSH.out h1) (i := 3) rfl) (And.intro (cell_blk (hs.at hSH.out h1) (i := 4) rfl) (And.intro (cell_blk (hs.at hSH.out h1) (i := 5) rfl) (And.intro (cell_blk (hs.at hSH.out h1) (i := 6) rfl) (And.intro (cell_blk (hs.at hSH.out h1) (i := 7) rfl) (cells6A (hs.at hBH.out h2))))))))
  refine wp_region_held_drew (S := fun w' => w'.cell? ⟨S, 2, none⟩ = some (.int .i64 k0) ∧ w'.cell? ⟨S, 3, none⟩ = some (.int .i64 n0) ∧ w'.cell? ⟨S, 4, none⟩ = some (.string ⟨#[]⟩) ∧ w'.cell? ⟨S, 5, none⟩ = some (.slice none 0 0) ∧ w'.cell? ⟨S, 6, none⟩ = some (.slice none 0 0) ∧ w'.cell? ⟨S, 7, none⟩ = some (.slice none 0 0) ∧
   w'.cell? ⟨w.heap.size, 0, none⟩ = some (.int .i64 4) ∧ w'.cell? ⟨w.heap.size, 1, none⟩ = some (.int .i64 n) ∧ w'.cell? ⟨w.heap.size, 2, none⟩ = some s ∧ w'.cell? ⟨w.heap.size, 3, none⟩ = some b ∧ w'.cell? ⟨w.heap.size, 4, none⟩ = some f ∧ w'.cell? ⟨w.heap.size, 5, none⟩ = some l) (by kernel_rfl) ⟨c2, c3, c4, c5, c6, c7, b0, b1, b2, b3, b4, b5⟩ (fun hHeld => ?_)
  refine tkH 0 ?_ rfl (by kernel_rfl) (fun _ _ _ h => h) ?_ hHeld ?_
  rotate_left
  ·intro w' hSw; (try dsimp only at hSw); go_simp
   all_goals (with_reducible rfl)
  simp only [zP, zO, zA, zB, zC, zD, zE, zF]
  refine tkH 1 ?_ rfl (by kernel_rfl) (fun _ _ _ h => h) ?_ hHeld ?_
  rotate_left
  ·intro w' hSw; (try dsimp only at hSw); go_simp
   all_goals (with_reducible rfl)
  simp only [zP, zO, zA, zB, zC, zD, zE, zF]
  refine tkH 2 ?_ rfl (by kernel_rfl) (fun _ _ _ h => h) ?_ hHeld ?_
  rotate_left
  ·intro w' hSw; (try dsimp only at hSw); go_simp
   all_goals (with_reducible rfl)
  simp only [zP, zO, zA, zB, zC, zD, zE, zF]
  refine tkH 3 ?_ rfl (by kernel_rfl) (fun _ _ _ h => h) ?_ hHeld ?_
  rotate_left
  ·intro w' hSw; (try dsimp only at hSw); go_simp
   all_goals (with_reducible rfl)
  simp only [zP, zO, zA, zB, zC, zD, zE, zF]
  refine tkH 4 ?_ rfl (by kernel_rfl) (fun _ _ _ h => h) ?_ hHeld ?_
  rotate_left
  ·intro w' hSw; (try dsimp only at hSw); go_simp
   all_goals (with_reducible rfl)
  simp only [zP, zO, zA, zB, zC, zD, zE, zF]
  refine wpAnyH_ready (rs := [5, 9]) (by kernel_rfl) (by simp) ?_
  refine AllReadyH.cons (o := _) rfl (fun K hK => ?_) (AllReadyH.cons (o := _) rfl (fun K hK => ?_) AllReadyH.nil)
  ·go_simp
   refine (hadd.out _).mono ?_
   rintro e w4 ⟨rfl, hs4⟩
   have hs14 : Step [] id id W1 w4 := Step.drew.tail hs4
   go_wp2_with fail
   refine hK.out _ _ ?_ (fun hHeld => ?_)
   ·exact hall.out _ _ hs14 (by simp) (by simp)
   clear hK K
   refine tkH 6 ?_ rfl (by kernel_rfl) (fun _ _ _ h => h) ?_ hHeld ?_
   rotate_left
   ·intro w' hSw; (try dsimp only at hSw); go_simp
    all_goals (with_reducible rfl)
   simp only [zP, zO, zA, zB, zC, zD, zE, zF]
   refine tkH 7 ?_ rfl (by kernel_rfl) (fun _ _ _ h => h) ?_ hHeld ?_
   rotate_left
   ·intro w' hSw; (try dsimp only at hSw); go_simp
    all_goals (with_reducible rfl)
   simp only [zP, zO, zA, zB, zC, zD, zE, zF]
   refine tkH 8 ?_ rfl (by kernel_rfl) (fun _ _ _ h => h) ?_ hHeld ?_
   rotate_left
   ·intro w' hSw; (try dsimp only at hSw); go_simp
    all_goals (with_reducible rfl)
   simp only [zP, zO, zA, zB, zC, zD, zE, zF]
   refine wpAnyH_ready (rs := [9]) (by kernel_rfl) (by simp) ?_
   refine AllReadyH.cons (o := _) rfl (fun K hK => ?_) AllReadyH.nil
   go_simp
   obtain ⟨W5, hW5⟩ : ∃ W5, W5 = w4.alloc (.cells #[.int .i64 0, .int .i64 0, (.string ⟨#[]⟩), (.slice none 0 0), (.slice none 0 0), (.slice none 0 0)] 35) := ⟨_, rfl⟩
   have hZ5 : W5.heap[w4.heap.size]? = some (.cells #[.int .i64 0, .int .i64 0, (.string ⟨#[]⟩), (.slice none 0 0), (.slice none 0 0), (.slice none 0 0)] 35 (0, 0)) := by rw [hW5]; exact heap_alloc_new w4 _
   have hs15 : Step [] id id W1 W5 := by rw [hW5]; exact hs14.tail (Step.alloc _)
   have hV5 : W1.heap.size ≤ w4.heap.size := hs14.size
   rw [← hW5]
   clear hW5
   refine hK.out _ _ ?_ (fun hHeld => ?_)
   ·exact hall.out _ _ hs15 (by simp) (by simp)
   clear hK K
   have hSl := lt_of_block hSH.out
   have hBl := lt_of_block hBH.out
   obtain ⟨z0, z1, z2, z3, z4, z5⟩ := cells6A hZ5
   have fz := free_blk hZ5
   have lz := lt_of_block hZ5
   refine wpAnyH_ready (rs := [10]) (by kernel_rfl) (by simp) ?_
   refine AllReadyH.cons (o := _) rfl (fun K hK => ?_) AllReadyH.nil
   go_simp
   have hg6 : W5.grownBy (set6 W5 w4.heap.size (.int .i64 X0) (.int .i64 X1) (.string ⟨#[]⟩) (.slice none 0 0) (.slice none 0 0) (.slice none 0 0)) (some w4.heap.size) := set6_grown
   change K _ (set6 W5 w4.heap.size (.int .i64 X0) (.int .i64 X1) (.string ⟨#[]⟩) (.slice none 0 0) (.slice none 0 0) (.slice none 0 0))
   obtain ⟨W6, hW6⟩ : ∃ W6, W6 = set6 W5 w4.heap.size (.int .i64 X0) (.int .i64 X1) (.string ⟨#[]⟩) (.slice none 0 0) (.slice none 0 0) (.slice none 0 0) := ⟨_, rfl⟩
   have hX6 : W6.heap[w4.heap.size]? = some (.cells #[.int .i64 X0, .int .i64 X1, (.string ⟨#[]⟩), (.slice none 0 0), (.slice none 0 0), (.slice none 0 0)] 35 (0, 0)) := by rw [hW6]; exact set6_heap hZ5
   rw [← hW6] at hg6 ⊢
   have hs56 : Step [w4.heap.size] id id W5 W6 := .grown hg6 (fun k hk => by cases hk; simp)
   have hs16 : Step [] id id W1 W6 := hs15.tailNew hs56 (fun r hr => .inr (by rw [List.mem_singleton] at hr; rw [hr]; exact hV5))
   clear hW6
   refine hK.out _ _ ?_ (fun hHeld => ?_)
   ·exact hall.out _ _ hs16 (by simp) (by simp)
   clear hK K z0 z1 z2 z3 z4 z5 fz lz hg6 hs56
   refine tkH 11 ?_ rfl (by kernel_rfl) (fun _ _ _ h => h) ?_ hHeld ?_
   rotate_left
   ·intro w' hSw; (try dsimp only at hSw); go_simp
    all_goals (with_reducible rfl)
   simp only [zP, zO, zA, zB, zC, zD, zE, zF]
   refine wpAnyH_done (by kernel_rfl) ?_ _
   have hS6 := hs16.at hSH.out (by simp)
   have fS := free_blk hS6
   have c2 := cell_blk hS6 (i := 2) rfl
   have c3 := cell_blk hS6 (i := 3) rfl
   have c4 := cell_blk hS6 (i := 4) rfl
   have c5 := cell_blk hS6 (i := 5) rfl
   have c6 := cell_blk hS6 (i := 6) rfl
   have c7 := cell_blk hS6 (i := 7) rfl
   obtain ⟨x0, x1, x2, x3, x4, x5⟩ := cells6A hX6
   have lX := lt_of_block hX6
   have lS := lt_of_block hS6
   have hSX : ¬ S = w4.heap.size := by omega
   have hXS : ¬ w4.heap.size = S := by omega
   have hS6H := Lib.hid hS6
   have hs16H := Lib.hid hs16
   clear hS6 hs16 hX6 hs15 hZ5
   rcases hER.out with ⟨hr, rfl, hX0, hX1⟩ | ⟨hr, rfl⟩
   ·have hrH := Lib.hid (And.intro hr (And.intro hX0 hX1))
    clear hr hX0 hX1
    go_wp2_with fail
    go_ret
    obtain ⟨hr, hX0, hX1⟩ := hrH.out
    unfold SumA
    rw [if_pos hr]
    have h2 := set_blk hS6H.out 2 (.int .i64 X0)
    have h3 := set_blk h2 3 (.int .i64 X1)
    have h4 := set_blk h3 4 (.string ⟨#[]⟩)
    have h5 := set_blk h4 5 (.slice none 0 0)
    have h6 := set_blk h5 6 (.slice none 0 0)
    have h7 := set_blk h6 7 (.slice none 0 0)
    refine ⟨rfl, ((hs1H.out.tail hs16H.out).mono (fun _ h => by cases h)).tail ((((((Step.set _ _ (by simp)).tail (Step.set _ _ (by simp))).tail (Step.set _ _ (by simp))).tail (Step.set _ _ (by simp))).tail (Step.set _ _ (by simp))).tail (Step.set _ _ (by simp))), ?_⟩
    unfold StC
    simp only [hX0, hX1] at h7 ⊢
    simpa using h7
   ·have hrH := Lib.hid hr
    clear hr
    go_wp2_with fail
    go_ret
    unfold SumA
    rw [if_neg hrH.out]
    exact ⟨rfl, hs1H.out.tail hs16H.out⟩
  ·go_simp
   obtain ⟨W4, hW4⟩ : ∃ W4, W4 = (W1.alloc (.cells #[.int .i64 0, .int .i64 0, (.string ⟨#[]⟩), (.slice none 0 0), (.slice none 0 0), (.slice none 0 0)] 35)).drew := ⟨_, rfl⟩
   have hZ4 : W4.heap[W1.heap.size]? = some (.cells #[.int .i64 0, .int .i64 0, (.string ⟨#[]⟩), (.slice none 0 0), (.slice none 0 0), (.slice none 0 0)] 35 (0, 0)) := by rw [hW4]; exact heap_alloc_new W1 _
   have hs14 : Step [] id id W1 W4 := by rw [hW4]; exact (Step.alloc _).tail Step.drew
   rw [← hW4]
   clear hW4
   refine hK.out _ _ ?_ (fun hHeld => ?_)
   ·exact hall.out _ _ hs14 (by simp) (by simp)
   clear hK K
   refine wpAnyH_ready (rs := [5]) (by kernel_rfl) (by simp) ?_
   refine AllReadyH.cons (o := _) rfl (fun K hK => ?_) AllReadyH.nil
   go_simp
   refine (hadd.out _).mono ?_
   rintro e W5 ⟨rfl, hs45⟩
   have hZ5 := hs45.at hZ4 (by simp)
   have hs15 := hs14.tail hs45
   have hV5 : W1.heap.size ≤ W1.heap.size := Nat.le_refl _
   go_wp2_with fail
   refine hK.out _ _ ?_ (fun hHeld => ?_)
   ·exact hall.out _ _ hs15 (by simp) (by simp)
   clear hK K hs45 hZ4 hs14
   refine tkH 6 ?_ rfl (by kernel_rfl) (fun _ _ _ h => h) ?_ hHeld ?_
   rotate_left
   ·intro w' hSw; (try dsimp only at hSw); go_simp
    all_goals (with_reducible rfl)
   simp only [zP, zO, zA, zB, zC, zD, zE, zF]
   refine tkH 7 ?_ rfl (by kernel_rfl) (fun _ _ _ h => h) ?_ hHeld ?_
   rotate_left
   ·intro w' hSw; (try dsimp only at hSw); go_simp
    all_goals (with_reducible rfl)
   simp only [zP, zO, zA, zB, zC, zD, zE, zF]
   refine tkH 8 ?_ rfl (by kernel_rfl) (fun _ _ _ h => h) ?_ hHeld ?_
   rotate_left
   ·intro w' hSw; (try dsimp only at hSw); go_simp
    all_goals (with_reducible rfl)
   simp only [zP, zO, zA, zB, zC, zD, zE, zF]
   have hSl := lt_of_block hSH.out
   have hBl := lt_of_block hBH.out
   obtain ⟨z0, z1, z2, z3, z4, z5⟩ := cells6A hZ5
   have fz := free_blk hZ5
   have lz := lt_of_block hZ5
   refine wpAnyH_ready (rs := [10]) (by kernel_rfl) (by simp) ?_
   refine AllReadyH.cons (o := _) rfl (fun K hK => ?_) AllReadyH.nil
   go_simp
   have hg6 : W5.grownBy (set6 W5 W1.heap.size (.int .i64 X0) (.int .i64 X1) (.string ⟨#[]⟩) (.slice none 0 0) (.slice none 0 0) (.slice none 0 0)) (some W1.heap.size) := set6_grown
   change K _ (set6 W5 W1.heap.size (.int .i64 X0) (.int .i64 X1) (.string ⟨#[]⟩) (.slice none 0 0) (.slice none 0 0) (.slice none 0 0))
   obtain ⟨W6, hW6⟩ : ∃ W6, W6 = set6 W5 W1.heap.size (.int .i64 X0) (.int .i64 X1) (.string ⟨#[]⟩) (.slice none 0 0) (.slice none 0 0) (.slice none 0 0) := ⟨_, rfl⟩
   have hX6 : W6.heap[W1.heap.size]? = some (.cells #[.int .i64 X0, .int .i64 X1, (.string ⟨#[]⟩), (.slice none 0 0), (.slice none 0 0), (.slice none 0 0)] 35 (0, 0)) := by rw [hW6]; exact set6_heap hZ5
   rw [← hW6] at hg6 ⊢
   have hs56 : Step [W1.heap.size] id id W5 W6 := .grown hg6 (fun k hk => by cases hk; simp)
   have hs16 : Step [] id id W1 W6 := hs15.tailNew hs56 (fun r hr => .inr (by rw [List.mem_singleton] at hr; rw [hr]; exact hV5))
   clear hW6
   refine hK.out _ _ ?_ (fun hHeld => ?_)
   ·exact hall.out _ _ hs16 (by simp) (by simp)
   clear hK K z0 z1 z2 z3 z4 z5 fz lz hg6 hs56
   refine tkH 11 ?_ rfl (by kernel_rfl) (fun _ _ _ h => h) ?_ hHeld ?_
   rotate_left
   ·intro w' hSw; (try dsimp only at hSw); go_simp
    all_goals (with_reducible rfl)
   simp only [zP, zO, zA, zB, zC, zD, zE, zF]
   refine wpAnyH_done (by kernel_rfl) ?_ _
   have hS6 := hs16.at hSH.out (by simp)
   have fS := free_blk hS6
   have c2 := cell_blk hS6 (i := 2) rfl
   have c3 := cell_blk hS6 (i := 3) rfl
   have c4 := cell_blk hS6 (i := 4) rfl
   have c5 := cell_blk hS6 (i := 5) rfl
   have c6 := cell_blk hS6 (i := 6) rfl
   have c7 := cell_blk hS6 (i := 7) rfl
   obtain ⟨x0, x1, x2, x3, x4, x5⟩ := cells6A hX6
   have lX := lt_of_block hX6
   have lS := lt_of_block hS6
   have hSX : ¬ S = W1.heap.size := by omega
   have hXS : ¬ W1.heap.size = S := by omega
   have hS6H := Lib.hid hS6
   have hs16H := Lib.hid hs16
   clear hS6 hs16 hX6 hs15 hZ5
   rcases hER.out with ⟨hr, rfl, hX0, hX1⟩ | ⟨hr, rfl⟩
   ·have hrH := Lib.hid (And.intro hr (And.intro hX0 hX1))
    clear hr hX0 hX1
    go_wp2_with fail
    go_ret
    obtain ⟨hr, hX0, hX1⟩ := hrH.out
    unfold SumA
    rw [if_pos hr]
    have h2 := set_blk hS6H.out 2 (.int .i64 X0)
    have h3 := set_blk h2 3 (.int .i64 X1)
    have h4 := set_blk h3 4 (.string ⟨#[]⟩)
    have h5 := set_blk h4 5 (.slice none 0 0)
    have h6 := set_blk h5 6 (.slice none 0 0)
    have h7 := set_blk h6 7 (.slice none 0 0)
    refine ⟨rfl, ((hs1H.out.tail hs16H.out).mono (fun _ h => by cases h)).tail ((((((Step.set _ _ (by simp)).tail (Step.set _ _ (by simp))).tail (Step.set _ _ (by simp))).tail (Step.set _ _ (by simp))).tail (Step.set _ _ (by simp))).tail (Step.set _ _ (by simp))), ?_⟩
    unfold StC
    simp only [hX0, hX1] at h7 ⊢
    simpa using h7
   ·have hrH := Lib.hid hr
    clear hr
    go_wp2_with fail
    go_ret
    unfold SumA
    rw [if_neg hrH.out]
    exact ⟨rfl, hs1H.out.tail hs16H.out⟩
end Go.Proofs.YtembpajlllnncaaGreatDoor

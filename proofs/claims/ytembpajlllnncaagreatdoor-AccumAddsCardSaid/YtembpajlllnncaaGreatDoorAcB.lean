/- Accumulators: what is better is kept. -/
import Derived.Test.YtembpajlllnncaaGreatDoorAcR
set_option linter.unusedVariables false
set_option linter.unusedSimpArgs false
namespace Go.Proofs.YtembpajlllnncaaGreatDoor
open Go.RowKit

/-- A state keeps a value now; nothing is answered. -/
def KeepB (S : Nat) (K many : Int) (x : Val) (w : World) (e : Ending) (w' : World) : Prop :=
 e = .returned (.tuple #[]) ∧ Step [S] id id w w' ∧ ∃ d0 d1 d2 d3 d4 d5, StC w' S K many d0 d1 d2 d3 d4 d5 0 false ∧ VIs (fun k => w.heap.size ≤ k) w' x [d0, d1, d2, d3, d4, d5]
def SameP (w : World) (e : Ending) (w' : World) : Prop := e = .returned (.tuple #[]) ∧ Step [] id id w w'

set_option maxRecDepth 100000 in
set_option maxHeartbeats 4000000 in
/-- Missing and Null are let pass. -/
theorem better_none {w : World} {p : Value} {k n m : Int} {s b f l : Value} (hk : k = 0 ∨ k = 2) : Calls Tryz.prog 39 #[p, .agg #[.int .i64 k, .int .i64 n, s, b, f, l], .int .i64 m] w (SameP w) := by
 rcases hk with rfl | rfl
 ·go_enter Tryz.func39, Tryz.ntmps39
  go_wp2_with fail
  refine bodyPost_ret (results_none rfl _ _ _) rfl ?_
  exact ⟨rfl, Step.alloc _⟩
 ·go_enter Tryz.func39, Tryz.ntmps39
  go_wp2_with fail
  refine bodyPost_ret (results_none rfl _ _ _) rfl ?_
  exact ⟨rfl, Step.alloc _⟩
set_option maxRecDepth 100000 in
set_option maxHeartbeats 4000000 in
/-- The first that is there is kept. -/
theorem better_first {P : Nat → Prop} {w : World} {S : Nat} {K many m n1 : Int} {v2 v3 v4 v5 : Value} {x : Val} {cs : List Value} (h : StC w S K many (.int .i64 0) (.int .i64 n1) v2 v3 v4 v5 0 false) (hx : VIs P w x cs) (hw : weightV x ≤ 100000000) (hk : ¬ (x.kind = 0 ∨ x.kind = 2)) :
  Calls Tryz.prog 39 #[.pointer (some ⟨S, 0, none⟩), .agg cs.toArray, .int .i64 m] w (KeepB S K many x w) := by
 obtain ⟨s0, ba, bn, bc, fa, fn, fc, la, ln, lc, hcs, -⟩ := hx.six
 obtain ⟨n0, hn0⟩ : ∃ k, k = x.num := ⟨_, rfl⟩
 obtain ⟨k0, hk0⟩ : ∃ k, k = x.kind := ⟨_, rfl⟩
 rw [← hk0, ← hn0] at hcs
 subst hcs
 obtain ⟨W1, hW1⟩ : ∃ W1, W1 = w.alloc (.cells #[.int .i64 k0, .int .i64 n0, .string s0, .slice ba bn bc, .slice fa fn fc, .slice la ln lc] 35) := ⟨_, rfl⟩
 have hs1 : Step [] id id w W1 := by rw [hW1]; exact Step.alloc _
 have hS1 := hs1.at h (by simp)
 have hl := lt_of_block h
 have hx1 := hx.below.keep (P2 := fun _ => True) (w' := W1) (fun _ _ => trivial) (fun k hk hl => (hs1.keep k hl (by simp)).2)
 have hcpA := Lib.hid (fun (W : World) (hW : Step [] id id W1 W) => bs_copy hw (hx1.keep (P2 := fun _ => True) (w' := W) (fun _ _ => trivial) (fun k _ hk => (hW.keep k hk (by simp)).2)))
 have hBH := Lib.hid (show W1.heap[w.heap.size]? = some (.cells #[.int .i64 k0, .int .i64 n0, .string s0, .slice ba bn bc, .slice fa fn fc, .slice la ln lc] 35 (0, 0)) by rw [hW1]; exact heap_alloc_new w _)
 have hx1H := Lib.hid hx1
 have hs1H := Lib.hid hs1
 have hSH := Lib.hid hS1
 have hW1H := Lib.hid hW1
 have hka : (k0 == 0) = false := by rw [beq_eq_false_iff_ne, hk0]; exact fun e => hk (.inl e)
 have hkb : (k0 == 2) = false := by rw [beq_eq_false_iff_ne, hk0]; exact fun e => hk (.inr e)
 clear h hx hw hn0 hk0 hs1 hS1 hx1 hW1 hk
 go_enter Tryz.func39, Tryz.ntmps39
 go_wp2_with fail
 rw [← hW1H.out]
 have e2 := cell_blk hSH.out (i := 2) rfl
 refine wp_region_held_drew (S := fun w' => w'.cell? ⟨S, 2, none⟩ = some (.int .i64 0)) (by kernel_rfl) e2 (fun hHeld => ?_)
 refine tkH 0 ?_ rfl (by kernel_rfl) (fun _ _ _ h => h) ?_ hHeld ?_
 rotate_left
 ·intro w' hSw; (try dsimp only at hSw); go_simp
  all_goals (with_reducible rfl)
 simp only [zP, zO, zA, zB, zC, zD, zE, zF]
 refine tkH 1 ?_ rfl (by kernel_rfl) (fun _ _ _ h => h) ?_ hHeld ?_
 rotate_left
 ·intro w' hSw; (try dsimp only at hSw); go_simp
  all_goals (with_reducible rfl)
 simp only [zP, zO, zA, zB, zC, zD, zE, zF]
 refine tkH 2 ?_ rfl (by kernel_rfl) (fun _ _ _ h => h) ?_ hHeld ?_
 rotate_left
 ·intro w' hSw; (try dsimp only at hSw); go_simp
  all_goals (with_reducible rfl)
 simp only [zP, zO, zA, zB, zC, zD, zE, zF]
 refine tkH 3 ?_ rfl (by kernel_rfl) (fun _ _ _ h => h) ?_ hHeld ?_
 rotate_left
 ·intro w' hSw; (try dsimp only at hSw); go_simp
  all_goals (with_reducible rfl)
 simp only [zP, zO, zA, zB, zC, zD, zE, zF]
 refine tkH 4 ?_ rfl (by kernel_rfl) (fun _ _ _ h => h) ?_ hHeld ?_
 rotate_left
 ·intro w' hSw; (try dsimp only at hSw); go_simp
  all_goals (with_reducible rfl)
 simp only [zP, zO, zA, zB, zC, zD, zE, zF]
 refine tkH 5 ?_ rfl (by kernel_rfl) (fun _ _ _ h => h) ?_ hHeld ?_
 rotate_left
 ·intro w' hSw; (try dsimp only at hSw); go_simp
  all_goals (with_reducible rfl)
 simp only [zP, zO, zA, zB, zC, zD, zE, zF]
 refine tkH 6 ?_ rfl (by kernel_rfl) (fun _ _ _ h => h) ?_ hHeld ?_
 rotate_left
 ·intro w' hSw; (try dsimp only at hSw); go_simp
  all_goals (with_reducible rfl)
 simp only [zP, zO, zA, zB, zC, zD, zE, zF]
 refine wpAnyH_take (i := 7) (v := undef) rfl (by kernel_rfl) (by kernel_rfl) (by kernel_rfl) (fun _ _ _ h => h) (Or.inr ⟨by kernel_rfl, rfl⟩) hHeld ?_
 simp only [zP, zO, zA, zB, zC, zD, zE, zF]
 refine wpAnyH_take (i := 8) (v := undef) rfl (by kernel_rfl) (by kernel_rfl) (by kernel_rfl) (fun _ _ _ h => h) (Or.inr ⟨by kernel_rfl, rfl⟩) hHeld ?_
 simp only [zP, zO, zA, zB, zC, zD, zE, zF]
 refine wpAnyH_take (i := 9) (v := undef) rfl (by kernel_rfl) (by kernel_rfl) (by kernel_rfl) (fun _ _ _ h => h) (Or.inr ⟨by kernel_rfl, rfl⟩) hHeld ?_
 simp only [zP, zO, zA, zB, zC, zD, zE, zF]
 refine wpAnyH_take (i := 10) (v := undef) rfl (by kernel_rfl) (by kernel_rfl) (by kernel_rfl) (fun _ _ _ h => h) (Or.inr ⟨by kernel_rfl, rfl⟩) hHeld ?_
 simp only [zP, zO, zA, zB, zC, zD, zE, zF]
 refine wpAnyH_take (i := 11) (v := undef) rfl (by kernel_rfl) (by kernel_rfl) (by kernel_rfl) (fun _ _ _ h => h) (Or.inr ⟨by kernel_rfl, rfl⟩) hHeld ?_
 simp only [zP, zO, zA, zB, zC, zD, zE, zF]
 refine wpAnyH_take (i := 12) (v := undef) rfl (by kernel_rfl) (by kernel_rfl) (by kernel_rfl) (fun _ _ _ h => h) (Or.inr ⟨by kernel_rfl, rfl⟩) hHeld ?_
 simp only [zP, zO, zA, zB, zC, zD, zE, zF]
 refine wpAnyH_take (i := 13) (v := undef) rfl (by kernel_rfl) (by kernel_rfl) (by kernel_rfl) (fun _ _ _ h => h) (Or.inr ⟨by kernel_rfl, rfl⟩) hHeld ?_
 simp only [zP, zO, zA, zB, zC, zD, zE, zF]
 refine wpAnyH_take (i := 14) (v := undef) rfl (by kernel_rfl) (by kernel_rfl) (by kernel_rfl) (fun _ _ _ h => h) (Or.inr ⟨by kernel_rfl, rfl⟩) hHeld ?_
 simp only [zP, zO, zA, zB, zC, zD, zE, zF]
 refine tkH 15 ?_ rfl (by kernel_rfl) (fun _ _ _ h => h) ?_ hHeld ?_
 rotate_left
 ·intro w' hSw; (try dsimp only at hSw); go_simp
  all_goals (with_reducible rfl)
 simp only [zP, zO, zA, zB, zC, zD, zE, zF]
 refine wpAnyH_done (by kernel_rfl) ?_ _
 obtain ⟨W3, hW3⟩ : ∃ W3, W3 = W1.drew := ⟨_, rfl⟩
 rw [← hW3]
 have hs13 : Step [] id id W1 W3 := by rw [hW3]; exact Step.drew
 have hS3 := hs13.at hSH.out (by simp)
 have hB3 := hs13.at hBH.out (by simp)
 have hcp := Lib.hid (hcpA.out W3 hs13)
 obtain ⟨g0, g1, g2, g3, g4, g5⟩ := cells6A hB3
 have hs3 := Lib.hid (hs1H.out.tail hs13)
 have hx3 := Lib.hid (hx1H.out.keep (P2 := fun _ => True) (w' := W3) (fun _ _ => trivial) (fun k _ hk => (hs13.keep k hk (by simp)).2))
 clear hSH hs1H hx1H hHeld e2
 have hSH := Lib.hid hS3
 have hs1H := hs3
 have hx1H := hx3
 clear hW3 hs13 hS3 hB3 hs3 hx3
 go_wp2_with fail
 refine hcp.out.mono ?_
 rintro e w2 hC
 obtain ⟨ds, rfl, hxd, hs2⟩ := hC.is hx1H.out
 obtain ⟨s2, ba2, bn2, bc2, fa2, fn2, fc2, la2, ln2, lc2, hds, -⟩ := hxd.six
 obtain ⟨n2, hn2⟩ : ∃ k, k = x.num := ⟨_, rfl⟩
 obtain ⟨k2, hk2⟩ : ∃ k, k = x.kind := ⟨_, rfl⟩
 rw [← hk2, ← hn2] at hds
 subst hds
 have hS2 := hs2.at hSH.out (by simp)
 have fS := free_blk hS2
 have c2 := cell_blk hS2 (i := 2) rfl
 have c3 := cell_blk hS2 (i := 3) rfl
 have c4 := cell_blk hS2 (i := 4) rfl
 have c5 := cell_blk hS2 (i := 5) rfl
 have c6 := cell_blk hS2 (i := 6) rfl
 have c7 := cell_blk hS2 (i := 7) rfl
 have lS := lt_of_block hS2
 have hS2H := Lib.hid hS2
 have hxdH := Lib.hid hxd
 have hs2H := Lib.hid (hs1H.out.tail hs2)
 clear hC hxd hs2 hS2 hn2 hk2
 go_wp2_with fail
 go_end0
 have h2 := set_blk hS2H.out 2 (.int .i64 k2)
 have h3 := set_blk h2 3 (.int .i64 n2)
 have h4 := set_blk h3 4 (.string s2)
 have h5 := set_blk h4 5 (.slice ba2 bn2 bc2)
 have h6 := set_blk h5 6 (.slice fa2 fn2 fc2)
 have h7 := set_blk h6 7 (.slice la2 ln2 lc2)
 have hset : Step [S] id id w2 ((((((w2.setCell ⟨S, 2, none⟩ (.int .i64 k2)).setCell ⟨S, 3, none⟩ (.int .i64 n2)).setCell ⟨S, 4, none⟩ (.string s2)).setCell ⟨S, 5, none⟩ (.slice ba2 bn2 bc2)).setCell ⟨S, 6, none⟩ (.slice fa2 fn2 fc2)).setCell ⟨S, 7, none⟩ (.slice la2 ln2 lc2)) :=
  (((((Step.set _ _ (by simp)).tail (Step.set _ _ (by simp))).tail (Step.set _ _ (by simp))).tail (Step.set _ _ (by simp))).tail (Step.set _ _ (by simp))).tail (Step.set _ _ (by simp))
 have z1 := hs1H.out.size
 refine ⟨rfl, (hs2H.out.mono (fun _ h => by cases h)).tail hset, _, _, _, _, _, _, ?_, hxdH.out.keep (fun k hk => by omega) (fun k hk hl => (hset.keep k hl (by simp; omega)).2)⟩
 unfold StC
 simpa using h7
set_option maxRecDepth 100000 in
set_option maxHeartbeats 4000000 in
/-- What is no better is let pass. -/
theorem better_not {w : World} {S : Nat} {K many m k1 n1 k0 n0 size : Int} {s0 : ByteArray} {ba fa la : Option Addr} {bn bc fn fc ln lc : Nat} {v2 v3 v4 v5 s b f l : Value} {told : Bool} (h : StC w S K many (.int .i64 k1) (.int .i64 n1) v2 v3 v4 v5 size told)
  (hk : ¬ (k0 = 0 ∨ k0 = 2)) (hk1 : k1 ≠ 0) {C : Int} (hcm : ∀ W, Step [] id id w W → Calls Tryz.prog 42 #[.agg #[.int .i64 k0, .int .i64 n0, s, b, f, l], .agg #[.int .i64 k1, .int .i64 n1, v2, v3, v4, v5]] W fun e w' => e = .returned (.int .i64 (C)) ∧ Step [] id id W w') (hne : C ≠ m) :
  Calls Tryz.prog 39 #[.pointer (some ⟨S, 0, none⟩), .agg #[.int .i64 k0, .int .i64 n0, s, b, f, l], .int .i64 m] w (SameP w) := by
 obtain ⟨W1, hW1⟩ : ∃ W1, W1 = w.alloc (.cells #[.int .i64 k0, .int .i64 n0, s, b, f, l] 35) := ⟨_, rfl⟩
 have hs1 : Step [] id id w W1 := by rw [hW1]; exact Step.alloc _
 have hSH := Lib.hid (hs1.at h (by simp))
 have hBH := Lib.hid (show W1.heap[w.heap.size]? = some (.cells #[.int .i64 k0, .int .i64 n0, s, b, f, l] 35 (0, 0)) by rw [hW1]; exact heap_alloc_new w _)
 have hl := lt_of_block h
 have hW1H := Lib.hid hW1
 have hs1H := Lib.hid hs1
 have hka : (k0 == 0) = false := by rw [beq_eq_false_iff_ne]; exact fun e => hk (.inl e)
 have hkb : (k0 == 2) = false := by rw [beq_eq_false_iff_ne]; exact fun e => hk (.inr e)
 have hk1b : (k1 == 0) = false := by rw [beq_eq_false_iff_ne]; exact hk1
 have hcm := Lib.hid hcm
 have hCm : (C == m) = false := by rw [beq_eq_false_iff_ne]; exact hne
 clear h hk hk1 hne hW1 hs1
 go_enter Tryz.func39, Tryz.ntmps39
 go_wp2_with fail
 rw [← hW1H.out]
 have e2 := cell_blk hSH.out (i := 2) rfl
 have e3 := cell_blk hSH.out (i := 3) rfl
 have e4 := cell_blk hSH.out (i := 4) rfl
 have e5 := cell_blk hSH.out (i := 5) rfl
 have e6 := cell_blk hSH.out (i := 6) rfl
 have e7 := cell_blk hSH.out (i := 7) rfl
 have hall := Lib.hid (fun (W : World) (hs : Step [] id id W1 W) =>
  And.intro (cell_blk (hs.at hSH.out (by simp)) (i := 2) rfl) (And.intro (cell_blk (hs.at hSH.out (by simp)) (i := 3) rfl) (And.intro (cell_blk (hs.at hSH.out (by simp)) (i := 4) rfl) (And.intro (cell_blk (hs.at hSH.out (by simp)) (i := 5) rfl) (And.intro (cell_blk (hs.at hSH.out (by simp)) (i := 6) rfl) (And.intro (cell_blk (hs.at hSH.out (by simp)) (i := 7) rfl) (cells6A (hs.at hBH.out (by simp)))))))))
 obtain ⟨g0, g1, g2, g3, g4, g5⟩ := cells6A hBH.out
 refine wp_region_held_drew (S := fun w' => w'.cell? ⟨S, 2, none⟩ = some (.int .i64 k1) ∧ w'.cell? ⟨S, 3, none⟩ = some (.int .i64 n1) ∧ w'.cell? ⟨S, 4, none⟩ = some v2 ∧ w'.cell? ⟨S, 5, none⟩ = some v3 ∧ w'.cell? ⟨S, 6, none⟩ = some v4 ∧ w'.cell? ⟨S, 7, none⟩ = some v5 ∧
  w'.cell? ⟨w.heap.size, 0, none⟩ = some _ ∧ w'.cell? ⟨w.heap.size, 1, none⟩ = some _ ∧ w'.cell? ⟨w.heap.size, 2, none⟩ = some _ ∧ w'.cell? ⟨w.heap.size, 3, none⟩ = some _ ∧ w'.cell? ⟨w.heap.size, 4, none⟩ = some _ ∧ w'.cell? ⟨w.heap.size, 5, none⟩ = some _) (by kernel_rfl) ⟨e2, e3, e4, e5, e6, e7, g0, g1, g2, g3, g4, g5⟩ (fun hHeld => ?_)
 refine tkH 0 ?_ rfl (by kernel_rfl) (fun _ _ _ h => h) ?_ hHeld ?_
 rotate_left
 ·intro w' hSw; (try dsimp only at hSw); go_simp
  all_goals (with_reducible rfl)
 simp only [zP, zO, zA, zB, zC, zD, zE, zF]
 refine tkH 1 ?_ rfl (by kernel_rfl) (fun _ _ _ h => h) ?_ hHeld ?_
 rotate_left
 ·intro w' hSw; (try dsimp only at hSw); go_simp
  all_goals (with_reducible rfl)
 simp only [zP, zO, zA, zB, zC, zD, zE, zF]
 refine tkH 2 ?_ rfl (by kernel_rfl) (fun _ _ _ h => h) ?_ hHeld ?_
 rotate_left
 ·intro w' hSw; (try dsimp only at hSw); go_simp
  all_goals (with_reducible rfl)
 simp only [zP, zO, zA, zB, zC, zD, zE, zF]
 refine tkH 3 ?_ rfl (by kernel_rfl) (fun _ _ _ h => h) ?_ hHeld ?_
 rotate_left
 ·intro w' hSw; (try dsimp only at hSw); go_simp
  all_goals (with_reducible rfl)
 simp only [zP, zO, zA, zB, zC, zD, zE, zF]
 refine tkH 4 ?_ rfl (by kernel_rfl) (fun _ _ _ h => h) ?_ hHeld ?_
 rotate_left
 ·intro w' hSw; (try dsimp only at hSw); go_simp
  all_goals (with_reducible rfl)
 simp only [zP, zO, zA, zB, zC, zD, zE, zF]
 refine tkH 5 ?_ rfl (by kernel_rfl) (fun _ _ _ h => h) ?_ hHeld ?_
 rotate_left
 ·intro w' hSw; (try dsimp only at hSw); go_simp
  all_goals (with_reducible rfl)
 simp only [zP, zO, zA, zB, zC, zD, zE, zF]
 refine tkH 6 ?_ rfl (by kernel_rfl) (fun _ _ _ h => h) ?_ hHeld ?_
 rotate_left
 ·intro w' hSw; (try dsimp only at hSw); go_simp
  all_goals (with_reducible rfl)
 simp only [zP, zO, zA, zB, zC, zD, zE, zF]
 refine tkH 7 ?_ rfl (by kernel_rfl) (fun _ _ _ h => h) ?_ hHeld ?_
 rotate_left
 ·intro w' hSw; (try dsimp only at hSw); go_simp
  all_goals (with_reducible rfl)
 simp only [zP, zO, zA, zB, zC, zD, zE, zF]
 refine tkH 8 ?_ rfl (by kernel_rfl) (fun _ _ _ h => h) ?_ hHeld ?_
 rotate_left
 ·intro w' hSw; (try dsimp only at hSw); go_simp
  all_goals (with_reducible rfl)
 simp only [zP, zO, zA, zB, zC, zD, zE, zF]
 refine tkH 9 ?_ rfl (by kernel_rfl) (fun _ _ _ h => h) ?_ hHeld ?_
 rotate_left
 ·intro w' hSw; (try dsimp only at hSw); go_simp
  all_goals (with_reducible rfl)
 simp only [zP, zO, zA, zB, zC, zD, zE, zF]
 refine tkH 10 ?_ rfl (by kernel_rfl) (fun _ _ _ h => h) ?_ hHeld ?_
 rotate_left
 ·intro w' hSw; (try dsimp only at hSw); go_simp
  all_goals (with_reducible rfl)
 simp only [zP, zO, zA, zB, zC, zD, zE, zF]
 refine tkH 11 ?_ rfl (by kernel_rfl) (fun _ _ _ h => h) ?_ hHeld ?_
 rotate_left
 ·intro w' hSw; (try dsimp only at hSw); go_simp
  all_goals (with_reducible rfl)
 simp only [zP, zO, zA, zB, zC, zD, zE, zF]
 refine tkH 13 ?_ rfl (by kernel_rfl) (fun _ _ _ h => h) ?_ hHeld ?_
 rotate_left
 ·intro w' hSw; (try dsimp only at hSw); go_simp
  all_goals (with_reducible rfl)
 simp only [zP, zO, zA, zB, zC, zD, zE, zF]
 refine wpAnyH_ready (rs := [12]) (by kernel_rfl) (by simp) ?_
 refine AllReadyH.cons (o := _) rfl (fun K hK => ?_) AllReadyH.nil
 go_simp
 refine (hcm.out _ (hs1H.out.tail Step.drew)).mono ?_
 rintro e w4 ⟨rfl, hs4⟩
 have hs4H := Lib.hid hs4
 clear hs4
 go_wp2_with fail
 refine hK.out _ _ ?_ (fun hHeld => ?_)
 ·exact hall.out _ (Step.drew.tail hs4H.out)
 clear hK K
 refine tkH 14 ?_ rfl (by kernel_rfl) (fun _ _ _ h => h) ?_ hHeld ?_
 rotate_left
 ·intro w' hSw; (try dsimp only at hSw); go_simp
  all_goals (with_reducible rfl)
 simp only [zP, zO, zA, zB, zC, zD, zE, zF]
 refine tkH 15 ?_ rfl (by kernel_rfl) (fun _ _ _ h => h) ?_ hHeld ?_
 rotate_left
 ·intro w' hSw; (try dsimp only at hSw); go_simp
  all_goals (with_reducible rfl)
 simp only [zP, zO, zA, zB, zC, zD, zE, zF]
 refine wpAnyH_done (by kernel_rfl) ?_ _
 go_wp2_with fail
 refine bodyPost_ret (results_none rfl _ _ _) rfl ?_
 exact ⟨rfl, hs1H.out.tail (Step.drew.tail hs4H.out)⟩
set_option maxRecDepth 100000 in
set_option maxHeartbeats 4000000 in
/-- What is better is kept. -/
theorem better_yes {P : Nat → Prop} {w : World} {S : Nat} {K many k1 n1 : Int} {v2 v3 v4 v5 : Value} {x : Val} {cs : List Value} (m : Int) (h : StC w S K many (.int .i64 k1) (.int .i64 n1) v2 v3 v4 v5 0 false) (hx : VIs P w x cs) (hw : weightV x ≤ 100000000) (hk : ¬ (x.kind = 0 ∨ x.kind = 2))
  (hk1 : k1 ≠ 0) (hcm : ∀ W, Step [] id id w W → Calls Tryz.prog 42 #[.agg cs.toArray, .agg #[.int .i64 k1, .int .i64 n1, v2, v3, v4, v5]] W fun e w' => e = .returned (.int .i64 (m)) ∧ Step [] id id W w') :
  Calls Tryz.prog 39 #[.pointer (some ⟨S, 0, none⟩), .agg cs.toArray, .int .i64 m] w (KeepB S K many x w) := by
 obtain ⟨s0, ba, bn, bc, fa, fn, fc, la, ln, lc, hcs, -⟩ := hx.six
 obtain ⟨n0, hn0⟩ : ∃ k, k = x.num := ⟨_, rfl⟩
 obtain ⟨k0, hk0⟩ : ∃ k, k = x.kind := ⟨_, rfl⟩
 rw [← hk0, ← hn0] at hcs
 subst hcs
 obtain ⟨W1, hW1⟩ : ∃ W1, W1 = w.alloc (.cells #[.int .i64 k0, .int .i64 n0, .string s0, .slice ba bn bc, .slice fa fn fc, .slice la ln lc] 35) := ⟨_, rfl⟩
 have hs1 : Step [] id id w W1 := by rw [hW1]; exact Step.alloc _
 have hS1 := hs1.at h (by simp)
 have hl := lt_of_block h
 have hx1 := hx.below.keep (P2 := fun _ => True) (w' := W1) (fun _ _ => trivial) (fun k hk hl => (hs1.keep k hl (by simp)).2)
 have hcpA := Lib.hid (fun (W : World) (hW : Step [] id id W1 W) => bs_copy hw (hx1.keep (P2 := fun _ => True) (w' := W) (fun _ _ => trivial) (fun k _ hk => (hW.keep k hk (by simp)).2)))
 have hBH := Lib.hid (show W1.heap[w.heap.size]? = some (.cells #[.int .i64 k0, .int .i64 n0, .string s0, .slice ba bn bc, .slice fa fn fc, .slice la ln lc] 35 (0, 0)) by rw [hW1]; exact heap_alloc_new w _)
 have hx1H := Lib.hid hx1
 have hs1H := Lib.hid hs1
 have hSH := Lib.hid hS1
 have hW1H := Lib.hid hW1
 have hka : (k0 == 0) = false := by rw [beq_eq_false_iff_ne, hk0]; exact fun e => hk (.inl e)
 have hkb : (k0 == 2) = false := by rw [beq_eq_false_iff_ne, hk0]; exact fun e => hk (.inr e)
 have hk1b : (k1 == 0) = false := by rw [beq_eq_false_iff_ne]; exact hk1
 have hcm := Lib.hid hcm
 have hCm : (m == m) = true := by simp
 clear h hx hw hn0 hk0 hs1 hS1 hx1 hW1 hk hk1
 go_enter Tryz.func39, Tryz.ntmps39
 go_wp2_with fail
 rw [← hW1H.out]
 have e2 := cell_blk hSH.out (i := 2) rfl
 have e3 := cell_blk hSH.out (i := 3) rfl
 have e4 := cell_blk hSH.out (i := 4) rfl
 have e5 := cell_blk hSH.out (i := 5) rfl
 have e6 := cell_blk hSH.out (i := 6) rfl
 have e7 := cell_blk hSH.out (i := 7) rfl
 have hall := Lib.hid (fun (W : World) (hs : Step [] id id W1 W) =>
  And.intro (cell_blk (hs.at hSH.out (by simp)) (i := 2) rfl) (And.intro (cell_blk (hs.at hSH.out (by simp)) (i := 3) rfl) (And.intro (cell_blk (hs.at hSH.out (by simp)) (i := 4) rfl) (And.intro (cell_blk (hs.at hSH.out (by simp)) (i := 5) rfl) (And.intro (cell_blk (hs.at hSH.out (by simp)) (i := 6) rfl) (And.intro (cell_blk (hs.at hSH.out (by simp)) (i := 7) rfl) (cells6A (hs.at hBH.out (by simp)))))))))
 obtain ⟨g0, g1, g2, g3, g4, g5⟩ := cells6A hBH.out
 refine wp_region_held_drew (S := fun w' => w'.cell? ⟨S, 2, none⟩ = some (.int .i64 k1) ∧ w'.cell? ⟨S, 3, none⟩ = some (.int .i64 n1) ∧ w'.cell? ⟨S, 4, none⟩ = some v2 ∧ w'.cell? ⟨S, 5, none⟩ = some v3 ∧ w'.cell? ⟨S, 6, none⟩ = some v4 ∧ w'.cell? ⟨S, 7, none⟩ = some v5 ∧
  w'.cell? ⟨w.heap.size, 0, none⟩ = some _ ∧ w'.cell? ⟨w.heap.size, 1, none⟩ = some _ ∧ w'.cell? ⟨w.heap.size, 2, none⟩ = some _ ∧ w'.cell? ⟨w.heap.size, 3, none⟩ = some _ ∧ w'.cell? ⟨w.heap.size, 4, none⟩ = some _ ∧ w'.cell? ⟨w.heap.size, 5, none⟩ = some _) (by kernel_rfl) ⟨e2, e3, e4, e5, e6, e7, g0, g1, g2, g3, g4, g5⟩ (fun hHeld => ?_)
 refine tkH 0 ?_ rfl (by kernel_rfl) (fun _ _ _ h => h) ?_ hHeld ?_
 rotate_left
 ·intro w' hSw; (try dsimp only at hSw); go_simp
  all_goals (with_reducible rfl)
 simp only [zP, zO, zA, zB, zC, zD, zE, zF]
 refine tkH 1 ?_ rfl (by kernel_rfl) (fun _ _ _ h => h) ?_ hHeld ?_
 rotate_left
 ·intro w' hSw; (try dsimp only at hSw); go_simp
  all_goals (with_reducible rfl)
 simp only [zP, zO, zA, zB, zC, zD, zE, zF]
 refine tkH 2 ?_ rfl (by kernel_rfl) (fun _ _ _ h => h) ?_ hHeld ?_
 rotate_left
 ·intro w' hSw; (try dsimp only at hSw); go_simp
  all_goals (with_reducible rfl)
 simp only [zP, zO, zA, zB, zC, zD, zE, zF]
 refine tkH 3 ?_ rfl (by kernel_rfl) (fun _ _ _ h => h) ?_ hHeld ?_
 rotate_left
 ·intro w' hSw; (try dsimp only at hSw); go_simp
  all_goals (with_reducible rfl)
 simp only [zP, zO, zA, zB, zC, zD, zE, zF]
 refine tkH 4 ?_ rfl (by kernel_rfl) (fun _ _ _ h => h) ?_ hHeld ?_
 rotate_left
 ·intro w' hSw; (try dsimp only at hSw); go_simp
  all_goals (with_reducible rfl)
 simp only [zP, zO, zA, zB, zC, zD, zE, zF]
 refine tkH 5 ?_ rfl (by kernel_rfl) (fun _ _ _ h => h) ?_ hHeld ?_
 rotate_left
 ·intro w' hSw; (try dsimp only at hSw); go_simp
  all_goals (with_reducible rfl)
 simp only [zP, zO, zA, zB, zC, zD, zE, zF]
 refine tkH 6 ?_ rfl (by kernel_rfl) (fun _ _ _ h => h) ?_ hHeld ?_
 rotate_left
 ·intro w' hSw; (try dsimp only at hSw); go_simp
  all_goals (with_reducible rfl)
 simp only [zP, zO, zA, zB, zC, zD, zE, zF]
 refine tkH 7 ?_ rfl (by kernel_rfl) (fun _ _ _ h => h) ?_ hHeld ?_
 rotate_left
 ·intro w' hSw; (try dsimp only at hSw); go_simp
  all_goals (with_reducible rfl)
 simp only [zP, zO, zA, zB, zC, zD, zE, zF]
 refine tkH 8 ?_ rfl (by kernel_rfl) (fun _ _ _ h => h) ?_ hHeld ?_
 rotate_left
 ·intro w' hSw; (try dsimp only at hSw); go_simp
  all_goals (with_reducible rfl)
 simp only [zP, zO, zA, zB, zC, zD, zE, zF]
 refine tkH 9 ?_ rfl (by kernel_rfl) (fun _ _ _ h => h) ?_ hHeld ?_
 rotate_left
 ·intro w' hSw; (try dsimp only at hSw); go_simp
  all_goals (with_reducible rfl)
 simp only [zP, zO, zA, zB, zC, zD, zE, zF]
 refine tkH 10 ?_ rfl (by kernel_rfl) (fun _ _ _ h => h) ?_ hHeld ?_
 rotate_left
 ·intro w' hSw; (try dsimp only at hSw); go_simp
  all_goals (with_reducible rfl)
 simp only [zP, zO, zA, zB, zC, zD, zE, zF]
 refine tkH 11 ?_ rfl (by kernel_rfl) (fun _ _ _ h => h) ?_ hHeld ?_
 rotate_left
 ·intro w' hSw; (try dsimp only at hSw); go_simp
  all_goals (with_reducible rfl)
 simp only [zP, zO, zA, zB, zC, zD, zE, zF]
 refine tkH 13 ?_ rfl (by kernel_rfl) (fun _ _ _ h => h) ?_ hHeld ?_
 rotate_left
 ·intro w' hSw; (try dsimp only at hSw); go_simp
  all_goals (with_reducible rfl)
 simp only [zP, zO, zA, zB, zC, zD, zE, zF]
 refine wpAnyH_ready (rs := [12]) (by kernel_rfl) (by simp) ?_
 refine AllReadyH.cons (o := _) rfl (fun K hK => ?_) AllReadyH.nil
 go_simp
 refine (hcm.out _ (hs1H.out.tail Step.drew)).mono ?_
 rintro e w4 ⟨rfl, hs4⟩
 have hs4H := Lib.hid hs4
 clear hs4
 go_wp2_with fail
 refine hK.out _ _ ?_ (fun hHeld => ?_)
 ·exact hall.out _ (Step.drew.tail hs4H.out)
 clear hK K
 refine tkH 14 ?_ rfl (by kernel_rfl) (fun _ _ _ h => h) ?_ hHeld ?_
 rotate_left
 ·intro w' hSw; (try dsimp only at hSw); go_simp
  all_goals (with_reducible rfl)
 simp only [zP, zO, zA, zB, zC, zD, zE, zF]
 refine tkH 15 ?_ rfl (by kernel_rfl) (fun _ _ _ h => h) ?_ hHeld ?_
 rotate_left
 ·intro w' hSw; (try dsimp only at hSw); go_simp
  all_goals (with_reducible rfl)
 simp only [zP, zO, zA, zB, zC, zD, zE, zF]
 refine wpAnyH_done (by kernel_rfl) ?_ _
 have hs14 : Step [] id id W1 w4 := Step.drew.tail hs4H.out
 clear g0 g1 g2 g3 g4 g5 e3 e4 e5 e6 e7
 have hS3 := hs14.at hSH.out (by simp)
 have hB3 := hs14.at hBH.out (by simp)
 have hcp := Lib.hid (hcpA.out w4 hs14)
 obtain ⟨g0, g1, g2, g3, g4, g5⟩ := cells6A hB3
 have hs3 := Lib.hid (hs1H.out.tail hs14)
 have hx3 := Lib.hid (hx1H.out.keep (P2 := fun _ => True) (w' := w4) (fun _ _ => trivial) (fun k _ hk => (hs14.keep k hk (by simp)).2))
 clear hSH hs1H hx1H hHeld e2
 have hSH := Lib.hid hS3
 have hs1H := hs3
 have hx1H := hx3
 clear hs14 hS3 hB3 hs3 hx3
 go_wp2_with fail
 refine hcp.out.mono ?_
 rintro e w2 hC
 obtain ⟨ds, rfl, hxd, hs2⟩ := hC.is hx1H.out
 obtain ⟨s2, ba2, bn2, bc2, fa2, fn2, fc2, la2, ln2, lc2, hds, -⟩ := hxd.six
 obtain ⟨n2, hn2⟩ : ∃ k, k = x.num := ⟨_, rfl⟩
 obtain ⟨k2, hk2⟩ : ∃ k, k = x.kind := ⟨_, rfl⟩
 rw [← hk2, ← hn2] at hds
 subst hds
 have hS2 := hs2.at hSH.out (by simp)
 have fS := free_blk hS2
 have c2 := cell_blk hS2 (i := 2) rfl
 have c3 := cell_blk hS2 (i := 3) rfl
 have c4 := cell_blk hS2 (i := 4) rfl
 have c5 := cell_blk hS2 (i := 5) rfl
 have c6 := cell_blk hS2 (i := 6) rfl
 have c7 := cell_blk hS2 (i := 7) rfl
 have lS := lt_of_block hS2
 have hS2H := Lib.hid hS2
 have hxdH := Lib.hid hxd
 have hs2H := Lib.hid (hs1H.out.tail hs2)
 clear hC hxd hs2 hS2 hn2 hk2
 go_wp2_with fail
 go_end0
 have h2 := set_blk hS2H.out 2 (.int .i64 k2)
 have h3 := set_blk h2 3 (.int .i64 n2)
 have h4 := set_blk h3 4 (.string s2)
 have h5 := set_blk h4 5 (.slice ba2 bn2 bc2)
 have h6 := set_blk h5 6 (.slice fa2 fn2 fc2)
 have h7 := set_blk h6 7 (.slice la2 ln2 lc2)
 have hset : Step [S] id id w2 ((((((w2.setCell ⟨S, 2, none⟩ (.int .i64 k2)).setCell ⟨S, 3, none⟩ (.int .i64 n2)).setCell ⟨S, 4, none⟩ (.string s2)).setCell ⟨S, 5, none⟩ (.slice ba2 bn2 bc2)).setCell ⟨S, 6, none⟩ (.slice fa2 fn2 fc2)).setCell ⟨S, 7, none⟩ (.slice la2 ln2 lc2)) :=
  (((((Step.set _ _ (by simp)).tail (Step.set _ _ (by simp))).tail (Step.set _ _ (by simp))).tail (Step.set _ _ (by simp))).tail (Step.set _ _ (by simp))).tail (Step.set _ _ (by simp))
 have z1 := hs1H.out.size
 refine ⟨rfl, (hs2H.out.mono (fun _ h => by cases h)).tail hset, _, _, _, _, _, _, ?_, hxdH.out.keep (fun k hk => by omega) (fun k hk hl => (hset.keep k hl (by simp; omega)).2)⟩
 unfold StC
 simpa using h7
end Go.Proofs.YtembpajlllnncaaGreatDoor

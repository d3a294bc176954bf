/- The reference's reader: bad, need. The reference's reader: its place among the bytes; need, get, known. -/
import Derived.Test.YtbkmnhogfegmcaaDoorBsG1
set_option linter.unusedVariables false
set_option linter.unusedSimpArgs false
namespace Go.Proofs.YtbkmnhogfegmcaaDoor
open Go.RowKit

theorem set1_grown (w : World) (B i : Nat) (v : Value) : w.grownBy (w.setCell ⟨B, i, none⟩ v) (some B) := ⟨rfl, rfl, rfl, by simp [World.setCell], fun k _ hk => Below.heap_setCell _ _ _ _ (fun e => hk (by rw [e]))⟩
/-- The reader's three cells: bytes, a place, the first error. -/
def RdR (w : World) (R : Nat) (bv : Value) (a e : Int) : Prop := w.heap[R]? = some (.cells #[bv, .int .i64 a, .int .i64 e] 67 (0, 0))
def BadP (w : World) (R : Nat) (bv : Value) (a e : Int) (x : Ending) (w' : World) : Prop := x = .returned (.tuple #[]) ∧ RdR w' R bv a e ∧ Step [R] id id w w'
set_option maxRecDepth 100000 in
theorem ref_bad {w : World} {R : Nat} {bv : Value} {a e0 : Int} (h : RdR w R bv a e0) (e : Int) : Calls Tryd.prog 52 #[.pointer (some ⟨R, 0, none⟩), .int .i64 e] w (BadP w R bv a (if e0 = 0 then e else e0)) := by
  have hH := Lib.hid h
  have c2 := cell_blk h (i := 2) rfl
  have f2 := free_blk h 2
  have hl := lt_of_block h
  clear h
  by_cases h0 : e0 = 0
  · have hd : (e0 == 0) = true := by rw [beq_iff_eq]; exact h0
    rw [if_pos h0]
    clear h0
    go_enter Tryd.func52, Tryd.ntmps52
    go_wp2_with fail
    go_end0
    exact ⟨rfl, set_blk hH.out 2 _, .grown (set1_grown _ _ _ _) (fun k hk => by cases hk; simp)⟩
  · have hd : (e0 == 0) = false := by rw [beq_eq_false_iff_ne]; exact h0
    rw [if_neg h0]
    clear h0
    go_enter Tryd.func52, Tryd.ntmps52
    go_wp2_with fail
    go_end0
    exact ⟨rfl, hH.out, Step.refl _ _ _⟩
def NeedP (w : World) (R : Nat) (bv : Value) (a e : Int) (x : Ending) (w' : World) : Prop := x = .returned (.bool (decide (e = 0))) ∧ RdR w' R bv a e ∧ Step [R] id id w w'
set_option maxRecDepth 100000 in
theorem ref_need {w : World} {R : Nat} {ba : Option Addr} {bn bc : Nat} {a n e0 : Int} (h : RdR w R (.slice ba bn bc) a e0) (hbn : bn ≤ 140737488351232) (ha : 0 ≤ a ∧ a ≤ 140737488351232) :
    Calls Tryd.prog 53 #[.pointer (some ⟨R, 0, none⟩), .int .i64 n] w (NeedP w R (.slice ba bn bc) a (if e0 = 0 ∧ (bn : Int) - a < n then 2 else e0)) := by
  have hb := Lib.hid (ref_bad (w := w.drew) (show RdR w.drew R (.slice ba bn bc) a e0 from h) 2)
  have hH := Lib.hid h
  have c0 := cell_blk h (i := 0) rfl
  have c1 := cell_blk h (i := 1) rfl
  have c2 := cell_blk h (i := 2) rfl
  have hl := lt_of_block h
  obtain ⟨ha0, ha1⟩ := ha
  have hwr : IntKind.i64.wrap ((bn : Int) - a) = (bn : Int) - a := IntWalk.i64_in _ (by omega)
  clear h
  by_cases h0 : e0 = 0
  · have hd : (e0 == 0) = true := by rw [beq_iff_eq]; exact h0
    by_cases hs : (bn : Int) - a < n
    · rw [if_pos ⟨h0, hs⟩]
      have hb2 := Lib.hid (show Calls Tryd.prog 52 #[.pointer (some ⟨R, 0, none⟩), .int .i64 2] w.drew (BadP w.drew R (.slice ba bn bc) a 2) by have := hb.out; rwa [if_pos h0] at this)
      clear h0 hb
      go_enter Tryd.func53, Tryd.ntmps53
      go_wp2_with fail
      refine wp_region_held_drew (S := fun w' => w'.cell? ⟨R, 0, none⟩ = some (.slice ba bn bc) ∧ w'.cell? ⟨R, 1, none⟩ = some (.int .i64 a) ∧ w'.cell? ⟨R, 2, none⟩ = some (.int .i64 e0)) (by kernel_rfl) ⟨c0, c1, c2⟩ (fun hHeld => ?_)
      refine wpAnyH_take (i := 0) (v := ?_) rfl (by kernel_rfl) (by kernel_rfl) (by kernel_rfl) (fun _ _ _ h => h) (Or.inl ⟨by kernel_rfl, ?_⟩) hHeld ?_
      rotate_left
      · intro w' hSw; (try dsimp only at hSw); go_simp
        all_goals (with_reducible rfl)
      simp only [Act.put, List.getElem_toArray, List.getElem_cons_zero, List.getElem_cons_succ, List.setIfInBounds_toArray, List.set_cons_zero, List.set_cons_succ]
      refine wpAnyH_take (i := 1) (v := ?_) rfl (by kernel_rfl) (by kernel_rfl) (by kernel_rfl) (fun _ _ _ h => h) (Or.inl ⟨by kernel_rfl, ?_⟩) hHeld ?_
      rotate_left
      · intro w' hSw; (try dsimp only at hSw); go_simp
        all_goals (with_reducible rfl)
      simp only [Act.put, List.getElem_toArray, List.getElem_cons_zero, List.getElem_cons_succ, List.setIfInBounds_toArray, List.set_cons_zero, List.set_cons_succ]
      refine wpAnyH_take (i := 2) (v := ?_) rfl (by kernel_rfl) (by kernel_rfl) (by kernel_rfl) (fun _ _ _ h => h) (Or.inl ⟨by kernel_rfl, ?_⟩) hHeld ?_
      rotate_left
      · intro w' hSw; (try dsimp only at hSw); go_simp
        all_goals (with_reducible rfl)
      simp only [Act.put, List.getElem_toArray, List.getElem_cons_zero, List.getElem_cons_succ, List.setIfInBounds_toArray, List.set_cons_zero, List.set_cons_succ]
      refine wpAnyH_take (i := 3) (v := ?_) rfl (by kernel_rfl) (by kernel_rfl) (by kernel_rfl) (fun _ _ _ h => h) (Or.inl ⟨by kernel_rfl, ?_⟩) hHeld ?_
      rotate_left
      · intro w' hSw; (try dsimp only at hSw); go_simp
        all_goals (with_reducible rfl)
      simp only [Act.put, List.getElem_toArray, List.getElem_cons_zero, List.getElem_cons_succ, List.setIfInBounds_toArray, List.set_cons_zero, List.set_cons_succ]
      refine wpAnyH_take (i := 4) (v := ?_) rfl (by kernel_rfl) (by kernel_rfl) (by kernel_rfl) (fun _ _ _ h => h) (Or.inl ⟨by kernel_rfl, ?_⟩) hHeld ?_
      rotate_left
      · intro w' hSw; (try dsimp only at hSw); go_simp
        all_goals (with_reducible rfl)
      simp only [Act.put, List.getElem_toArray, List.getElem_cons_zero, List.getElem_cons_succ, List.setIfInBounds_toArray, List.set_cons_zero, List.set_cons_succ]
      refine wpAnyH_take (i := 5) (v := ?_) rfl (by kernel_rfl) (by kernel_rfl) (by kernel_rfl) (fun _ _ _ h => h) (Or.inl ⟨by kernel_rfl, ?_⟩) hHeld ?_
      rotate_left
      · intro w' hSw; (try dsimp only at hSw); go_simp
        all_goals (with_reducible rfl)
      simp only [Act.put, List.getElem_toArray, List.getElem_cons_zero, List.getElem_cons_succ, List.setIfInBounds_toArray, List.set_cons_zero, List.set_cons_succ]
      refine wpAnyH_take (i := 6) (v := ?_) rfl (by kernel_rfl) (by kernel_rfl) (by kernel_rfl) (fun _ _ _ h => h) (Or.inl ⟨by kernel_rfl, ?_⟩) hHeld ?_
      rotate_left
      · intro w' hSw; (try dsimp only at hSw); go_simp
        all_goals (with_reducible rfl)
      simp only [Act.put, List.getElem_toArray, List.getElem_cons_zero, List.getElem_cons_succ, List.setIfInBounds_toArray, List.set_cons_zero, List.set_cons_succ]
      refine wpAnyH_take (i := 7) (v := ?_) rfl (by kernel_rfl) (by kernel_rfl) (by kernel_rfl) (fun _ _ _ h => h) (Or.inl ⟨by kernel_rfl, ?_⟩) hHeld ?_
      rotate_left
      · intro w' hSw; (try dsimp only at hSw); go_simp
        all_goals (with_reducible rfl)
      simp only [Act.put, List.getElem_toArray, List.getElem_cons_zero, List.getElem_cons_succ, List.setIfInBounds_toArray, List.set_cons_zero, List.set_cons_succ]
      refine wpAnyH_take (i := 8) (v := ?_) rfl (by kernel_rfl) (by kernel_rfl) (by kernel_rfl) (fun _ _ _ h => h) (Or.inl ⟨by kernel_rfl, ?_⟩) hHeld ?_
      rotate_left
      · intro w' hSw; (try dsimp only at hSw); go_simp
        all_goals (with_reducible rfl)
      simp only [Act.put, List.getElem_toArray, List.getElem_cons_zero, List.getElem_cons_succ, List.setIfInBounds_toArray, List.set_cons_zero, List.set_cons_succ]
      refine wpAnyH_take (i := 9) (v := ?_) rfl (by kernel_rfl) (by kernel_rfl) (by kernel_rfl) (fun _ _ _ h => h) (Or.inl ⟨by kernel_rfl, ?_⟩) hHeld ?_
      rotate_left
      · intro w' hSw; (try dsimp only at hSw); go_simp
        all_goals (with_reducible rfl)
      simp only [Act.put, List.getElem_toArray, List.getElem_cons_zero, List.getElem_cons_succ, List.setIfInBounds_toArray, List.set_cons_zero, List.set_cons_succ]
      refine wpAnyH_take (i := 10) (v := ?_) rfl (by kernel_rfl) (by kernel_rfl) (by kernel_rfl) (fun _ _ _ h => h) (Or.inl ⟨by kernel_rfl, ?_⟩) hHeld ?_
      rotate_left
      · intro w' hSw; (try dsimp only at hSw); go_simp
        all_goals (with_reducible rfl)
      simp only [Act.put, List.getElem_toArray, List.getElem_cons_zero, List.getElem_cons_succ, List.setIfInBounds_toArray, List.set_cons_zero, List.set_cons_succ]
      refine wpAnyH_take (i := 11) (v := ?_) rfl (by kernel_rfl) (by kernel_rfl) (by kernel_rfl) (fun _ _ _ h => h) (Or.inl ⟨by kernel_rfl, ?_⟩) hHeld ?_
      rotate_left
      · intro w' hSw; (try dsimp only at hSw); go_simp
        all_goals (with_reducible rfl)
      simp only [Act.put, List.getElem_toArray, List.getElem_cons_zero, List.getElem_cons_succ, List.setIfInBounds_toArray, List.set_cons_zero, List.set_cons_succ]
      refine wpAnyH_take (i := 12) (v := ?_) rfl (by kernel_rfl) (by kernel_rfl) (by kernel_rfl) (fun _ _ _ h => h) (Or.inl ⟨by kernel_rfl, ?_⟩) hHeld ?_
      rotate_left
      · intro w' hSw; (try dsimp only at hSw); go_simp
        all_goals (with_reducible rfl)
      simp only [Act.put, List.getElem_toArray, List.getElem_cons_zero, List.getElem_cons_succ, List.setIfInBounds_toArray, List.set_cons_zero, List.set_cons_succ]
      refine wpAnyH_take (i := 13) (v := ?_) rfl (by kernel_rfl) (by kernel_rfl) (by kernel_rfl) (fun _ _ _ h => h) (Or.inl ⟨by kernel_rfl, ?_⟩) hHeld ?_
      rotate_left
      · intro w' hSw; (try dsimp only at hSw); go_simp
        all_goals (with_reducible rfl)
      simp only [Act.put, List.getElem_toArray, List.getElem_cons_zero, List.getElem_cons_succ, List.setIfInBounds_toArray, List.set_cons_zero, List.set_cons_succ]
      refine wpAnyH_take (i := 14) (v := ?_) rfl (by kernel_rfl) (by kernel_rfl) (by kernel_rfl) (fun _ _ _ h => h) (Or.inl ⟨by kernel_rfl, ?_⟩) hHeld ?_
      rotate_left
      · intro w' hSw; (try dsimp only at hSw); go_simp
        all_goals (with_reducible rfl)
      simp only [Act.put, List.getElem_toArray, List.getElem_cons_zero, List.getElem_cons_succ, List.setIfInBounds_toArray, List.set_cons_zero, List.set_cons_succ]
      refine wpAnyH_take (i := 15) (v := ?_) rfl (by kernel_rfl) (by kernel_rfl) (by kernel_rfl) (fun _ _ _ h => h) (Or.inl ⟨by kernel_rfl, ?_⟩) hHeld ?_
      rotate_left
      · intro w' hSw; (try dsimp only at hSw); go_simp
        all_goals (with_reducible rfl)
      simp only [Act.put, List.getElem_toArray, List.getElem_cons_zero, List.getElem_cons_succ, List.setIfInBounds_toArray, List.set_cons_zero, List.set_cons_succ]
      refine wpAnyH_take (i := 16) (v := ?_) rfl (by kernel_rfl) (by kernel_rfl) (by kernel_rfl) (fun _ _ _ h => h) (Or.inl ⟨by kernel_rfl, ?_⟩) hHeld ?_
      rotate_left
      · intro w' hSw; (try dsimp only at hSw); go_simp
        all_goals (with_reducible rfl)
      simp only [Act.put, List.getElem_toArray, List.getElem_cons_zero, List.getElem_cons_succ, List.setIfInBounds_toArray, List.set_cons_zero, List.set_cons_succ]
      refine wpAnyH_take (i := 17) (v := ?_) rfl (by kernel_rfl) (by kernel_rfl) (by kernel_rfl) (fun _ _ _ h => h) (Or.inl ⟨by kernel_rfl, ?_⟩) hHeld ?_
      rotate_left
      · intro w' hSw; (try dsimp only at hSw); go_simp
        all_goals (with_reducible rfl)
      simp only [Act.put, List.getElem_toArray, List.getElem_cons_zero, List.getElem_cons_succ, List.setIfInBounds_toArray, List.set_cons_zero, List.set_cons_succ]
      refine wpAnyH_take (i := 18) (v := ?_) rfl (by kernel_rfl) (by kernel_rfl) (by kernel_rfl) (fun _ _ _ h => h) (Or.inl ⟨by kernel_rfl, ?_⟩) hHeld ?_
      rotate_left
      · intro w' hSw; (try dsimp only at hSw); go_simp
        all_goals (with_reducible rfl)
      simp only [Act.put, List.getElem_toArray, List.getElem_cons_zero, List.getElem_cons_succ, List.setIfInBounds_toArray, List.set_cons_zero, List.set_cons_succ]
      refine wpAnyH_done (by kernel_rfl) ?_ _
      go_wp2_with fail
      refine hb2.out.mono ?_
      rintro e w2 ⟨rfl, hr, hs2⟩
      have d2 := cell_blk hr (i := 2) rfl
      have hl2 := lt_of_block hr
      have hrH := Lib.hid hr
      have hs2H := Lib.hid hs2
      clear hr hs2 c0 c1 c2 hl
      go_wp2_with fail
      go_ret
      exact ⟨rfl, hrH.out, Step.drew.tail hs2H.out⟩
    · rw [if_neg (fun h => hs h.2)]
      have hd2 : decide (e0 = 0) = true := decide_eq_true h0
      have hdH := Lib.hid hd2
      clear h0 hb hd2
      go_enter Tryd.func53, Tryd.ntmps53
      go_wp2_with fail
      refine wp_region_held_drew (S := fun w' => w'.cell? ⟨R, 0, none⟩ = some (.slice ba bn bc) ∧ w'.cell? ⟨R, 1, none⟩ = some (.int .i64 a) ∧ w'.cell? ⟨R, 2, none⟩ = some (.int .i64 e0)) (by kernel_rfl) ⟨c0, c1, c2⟩ (fun hHeld => ?_)
      refine wpAnyH_take (i := 0) (v := ?_) rfl (by kernel_rfl) (by kernel_rfl) (by kernel_rfl) (fun _ _ _ h => h) (Or.inl ⟨by kernel_rfl, ?_⟩) hHeld ?_
      rotate_left
      · intro w' hSw; (try dsimp only at hSw); go_simp
        all_goals (with_reducible rfl)
      simp only [Act.put, List.getElem_toArray, List.getElem_cons_zero, List.getElem_cons_succ, List.setIfInBounds_toArray, List.set_cons_zero, List.set_cons_succ]
      refine wpAnyH_take (i := 1) (v := ?_) rfl (by kernel_rfl) (by kernel_rfl) (by kernel_rfl) (fun _ _ _ h => h) (Or.inl ⟨by kernel_rfl, ?_⟩) hHeld ?_
      rotate_left
      · intro w' hSw; (try dsimp only at hSw); go_simp
        all_goals (with_reducible rfl)
      simp only [Act.put, List.getElem_toArray, List.getElem_cons_zero, List.getElem_cons_succ, List.setIfInBounds_toArray, List.set_cons_zero, List.set_cons_succ]
      refine wpAnyH_take (i := 2) (v := ?_) rfl (by kernel_rfl) (by kernel_rfl) (by kernel_rfl) (fun _ _ _ h => h) (Or.inl ⟨by kernel_rfl, ?_⟩) hHeld ?_
      rotate_left
      · intro w' hSw; (try dsimp only at hSw); go_simp
        all_goals (with_reducible rfl)
      simp only [Act.put, List.getElem_toArray, List.getElem_cons_zero, List.getElem_cons_succ, List.setIfInBounds_toArray, List.set_cons_zero, List.set_cons_succ]
      refine wpAnyH_take (i := 3) (v := ?_) rfl (by kernel_rfl) (by kernel_rfl) (by kernel_rfl) (fun _ _ _ h => h) (Or.inl ⟨by kernel_rfl, ?_⟩) hHeld ?_
      rotate_left
      · intro w' hSw; (try dsimp only at hSw); go_simp
        all_goals (with_reducible rfl)
      simp only [Act.put, List.getElem_toArray, List.getElem_cons_zero, List.getElem_cons_succ, List.setIfInBounds_toArray, List.set_cons_zero, List.set_cons_succ]
      refine wpAnyH_take (i := 4) (v := ?_) rfl (by kernel_rfl) (by kernel_rfl) (by kernel_rfl) (fun _ _ _ h => h) (Or.inl ⟨by kernel_rfl, ?_⟩) hHeld ?_
      rotate_left
      · intro w' hSw; (try dsimp only at hSw); go_simp
        all_goals (with_reducible rfl)
      simp only [Act.put, List.getElem_toArray, List.getElem_cons_zero, List.getElem_cons_succ, List.setIfInBounds_toArray, List.set_cons_zero, List.set_cons_succ]
      refine wpAnyH_take (i := 5) (v := ?_) rfl (by kernel_rfl) (by kernel_rfl) (by kernel_rfl) (fun _ _ _ h => h) (Or.inl ⟨by kernel_rfl, ?_⟩) hHeld ?_
      rotate_left
      · intro w' hSw; (try dsimp only at hSw); go_simp
        all_goals (with_reducible rfl)
      simp only [Act.put, List.getElem_toArray, List.getElem_cons_zero, List.getElem_cons_succ, List.setIfInBounds_toArray, List.set_cons_zero, List.set_cons_succ]
      refine wpAnyH_take (i := 6) (v := ?_) rfl (by kernel_rfl) (by kernel_rfl) (by kernel_rfl) (fun _ _ _ h => h) (Or.inl ⟨by kernel_rfl, ?_⟩) hHeld ?_
      rotate_left
      · intro w' hSw; (try dsimp only at hSw); go_simp
        all_goals (with_reducible rfl)
      simp only [Act.put, List.getElem_toArray, List.getElem_cons_zero, List.getElem_cons_succ, List.setIfInBounds_toArray, List.set_cons_zero, List.set_cons_succ]
      refine wpAnyH_take (i := 7) (v := ?_) rfl (by kernel_rfl) (by kernel_rfl) (by kernel_rfl) (fun _ _ _ h => h) (Or.inl ⟨by kernel_rfl, ?_⟩) hHeld ?_
      rotate_left
      · intro w' hSw; (try dsimp only at hSw); go_simp
        all_goals (with_reducible rfl)
      simp only [Act.put, List.getElem_toArray, List.getElem_cons_zero, List.getElem_cons_succ, List.setIfInBounds_toArray, List.set_cons_zero, List.set_cons_succ]
      refine wpAnyH_take (i := 8) (v := ?_) rfl (by kernel_rfl) (by kernel_rfl) (by kernel_rfl) (fun _ _ _ h => h) (Or.inl ⟨by kernel_rfl, ?_⟩) hHeld ?_
      rotate_left
      · intro w' hSw; (try dsimp only at hSw); go_simp
        all_goals (with_reducible rfl)
      simp only [Act.put, List.getElem_toArray, List.getElem_cons_zero, List.getElem_cons_succ, List.setIfInBounds_toArray, List.set_cons_zero, List.set_cons_succ]
      refine wpAnyH_take (i := 9) (v := ?_) rfl (by kernel_rfl) (by kernel_rfl) (by kernel_rfl) (fun _ _ _ h => h) (Or.inl ⟨by kernel_rfl, ?_⟩) hHeld ?_
      rotate_left
      · intro w' hSw; (try dsimp only at hSw); go_simp
        all_goals (with_reducible rfl)
      simp only [Act.put, List.getElem_toArray, List.getElem_cons_zero, List.getElem_cons_succ, List.setIfInBounds_toArray, List.set_cons_zero, List.set_cons_succ]
      refine wpAnyH_take (i := 10) (v := ?_) rfl (by kernel_rfl) (by kernel_rfl) (by kernel_rfl) (fun _ _ _ h => h) (Or.inl ⟨by kernel_rfl, ?_⟩) hHeld ?_
      rotate_left
      · intro w' hSw; (try dsimp only at hSw); go_simp
        all_goals (with_reducible rfl)
      simp only [Act.put, List.getElem_toArray, List.getElem_cons_zero, List.getElem_cons_succ, List.setIfInBounds_toArray, List.set_cons_zero, List.set_cons_succ]
      refine wpAnyH_take (i := 11) (v := ?_) rfl (by kernel_rfl) (by kernel_rfl) (by kernel_rfl) (fun _ _ _ h => h) (Or.inl ⟨by kernel_rfl, ?_⟩) hHeld ?_
      rotate_left
      · intro w' hSw; (try dsimp only at hSw); go_simp
        all_goals (with_reducible rfl)
      simp only [Act.put, List.getElem_toArray, List.getElem_cons_zero, List.getElem_cons_succ, List.setIfInBounds_toArray, List.set_cons_zero, List.set_cons_succ]
      refine wpAnyH_take (i := 12) (v := ?_) rfl (by kernel_rfl) (by kernel_rfl) (by kernel_rfl) (fun _ _ _ h => h) (Or.inl ⟨by kernel_rfl, ?_⟩) hHeld ?_
      rotate_left
      · intro w' hSw; (try dsimp only at hSw); go_simp
        all_goals (with_reducible rfl)
      simp only [Act.put, List.getElem_toArray, List.getElem_cons_zero, List.getElem_cons_succ, List.setIfInBounds_toArray, List.set_cons_zero, List.set_cons_succ]
      refine wpAnyH_take (i := 13) (v := ?_) rfl (by kernel_rfl) (by kernel_rfl) (by kernel_rfl) (fun _ _ _ h => h) (Or.inl ⟨by kernel_rfl, ?_⟩) hHeld ?_
      rotate_left
      · intro w' hSw; (try dsimp only at hSw); go_simp
        all_goals (with_reducible rfl)
      simp only [Act.put, List.getElem_toArray, List.getElem_cons_zero, List.getElem_cons_succ, List.setIfInBounds_toArray, List.set_cons_zero, List.set_cons_succ]
      refine wpAnyH_take (i := 14) (v := ?_) rfl (by kernel_rfl) (by kernel_rfl) (by kernel_rfl) (fun _ _ _ h => h) (Or.inl ⟨by kernel_rfl, ?_⟩) hHeld ?_
      rotate_left
      · intro w' hSw; (try dsimp only at hSw); go_simp
        all_goals (with_reducible rfl)
      simp only [Act.put, List.getElem_toArray, List.getElem_cons_zero, List.getElem_cons_succ, List.setIfInBounds_toArray, List.set_cons_zero, List.set_cons_succ]
      refine wpAnyH_take (i := 15) (v := ?_) rfl (by kernel_rfl) (by kernel_rfl) (by kernel_rfl) (fun _ _ _ h => h) (Or.inl ⟨by kernel_rfl, ?_⟩) hHeld ?_
      rotate_left
      · intro w' hSw; (try dsimp only at hSw); go_simp
        all_goals (with_reducible rfl)
      simp only [Act.put, List.getElem_toArray, List.getElem_cons_zero, List.getElem_cons_succ, List.setIfInBounds_toArray, List.set_cons_zero, List.set_cons_succ]
      refine wpAnyH_take (i := 16) (v := ?_) rfl (by kernel_rfl) (by kernel_rfl) (by kernel_rfl) (fun _ _ _ h => h) (Or.inl ⟨by kernel_rfl, ?_⟩) hHeld ?_
      rotate_left
      · intro w' hSw; (try dsimp only at hSw); go_simp
        all_goals (with_reducible rfl)
      simp only [Act.put, List.getElem_toArray, List.getElem_cons_zero, List.getElem_cons_succ, List.setIfInBounds_toArray, List.set_cons_zero, List.set_cons_succ]
      refine wpAnyH_take (i := 17) (v := ?_) rfl (by kernel_rfl) (by kernel_rfl) (by kernel_rfl) (fun _ _ _ h => h) (Or.inl ⟨by kernel_rfl, ?_⟩) hHeld ?_
      rotate_left
      · intro w' hSw; (try dsimp only at hSw); go_simp
        all_goals (with_reducible rfl)
      simp only [Act.put, List.getElem_toArray, List.getElem_cons_zero, List.getElem_cons_succ, List.setIfInBounds_toArray, List.set_cons_zero, List.set_cons_succ]
      refine wpAnyH_take (i := 18) (v := ?_) rfl (by kernel_rfl) (by kernel_rfl) (by kernel_rfl) (fun _ _ _ h => h) (Or.inl ⟨by kernel_rfl, ?_⟩) hHeld ?_
      rotate_left
      · intro w' hSw; (try dsimp only at hSw); go_simp
        all_goals (with_reducible rfl)
      simp only [Act.put, List.getElem_toArray, List.getElem_cons_zero, List.getElem_cons_succ, List.setIfInBounds_toArray, List.set_cons_zero, List.set_cons_succ]
      refine wpAnyH_done (by kernel_rfl) ?_ _
      go_wp2_with fail
      go_ret
      exact ⟨by rw [hdH.out]; rfl, hH.out, Step.drew⟩
  · have hd : (e0 == 0) = false := by rw [beq_eq_false_iff_ne]; exact h0
    rw [if_neg (fun h => h0 h.1)]
    have hd2 : decide (e0 = 0) = false := decide_eq_false h0
    have hdH := Lib.hid hd2
    clear h0 hb hd2
    go_enter Tryd.func53, Tryd.ntmps53
    go_wp2_with fail
    refine wp_region_held_drew (S := fun w' => w'.cell? ⟨R, 0, none⟩ = some (.slice ba bn bc) ∧ w'.cell? ⟨R, 1, none⟩ = some (.int .i64 a) ∧ w'.cell? ⟨R, 2, none⟩ = some (.int .i64 e0)) (by kernel_rfl) ⟨c0, c1, c2⟩ (fun hHeld => ?_)
    refine wpAnyH_take (i := 0) (v := ?_) rfl (by kernel_rfl) (by kernel_rfl) (by kernel_rfl) (fun _ _ _ h => h) (Or.inl ⟨by kernel_rfl, ?_⟩) hHeld ?_
    rotate_left
    · intro w' hSw; (try dsimp only at hSw); go_simp
      all_goals (with_reducible rfl)
    simp only [Act.put, List.getElem_toArray, List.getElem_cons_zero, List.getElem_cons_succ, List.setIfInBounds_toArray, List.set_cons_zero, List.set_cons_succ]
    refine wpAnyH_take (i := 1) (v := ?_) rfl (by kernel_rfl) (by kernel_rfl) (by kernel_rfl) (fun _ _ _ h => h) (Or.inl ⟨by kernel_rfl, ?_⟩) hHeld ?_
    rotate_left
    · intro w' hSw; (try dsimp only at hSw); go_simp
      all_goals (with_reducible rfl)
    simp only [Act.put, List.getElem_toArray, List.getElem_cons_zero, List.getElem_cons_succ, List.setIfInBounds_toArray, List.set_cons_zero, List.set_cons_succ]
    refine wpAnyH_take (i := 2) (v := ?_) rfl (by kernel_rfl) (by kernel_rfl) (by kernel_rfl) (fun _ _ _ h => h) (Or.inl ⟨by kernel_rfl, ?_⟩) hHeld ?_
    rotate_left
    · intro w' hSw; (try dsimp only at hSw); go_simp
      all_goals (with_reducible rfl)
    simp only [Act.put, List.getElem_toArray, List.getElem_cons_zero, List.getElem_cons_succ, List.setIfInBounds_toArray, List.set_cons_zero, List.set_cons_succ]
    refine wpAnyH_take (i := 3) (v := ?_) rfl (by kernel_rfl) (by kernel_rfl) (by kernel_rfl) (fun _ _ _ h => h) (Or.inl ⟨by kernel_rfl, ?_⟩) hHeld ?_
    rotate_left
    · intro w' hSw; (try dsimp only at hSw); go_simp
      all_goals (with_reducible rfl)
    simp only [Act.put, List.getElem_toArray, List.getElem_cons_zero, List.getElem_cons_succ, List.setIfInBounds_toArray, List.set_cons_zero, List.set_cons_succ]
    refine wpAnyH_take (i := 4) (v := ?_) rfl (by kernel_rfl) (by kernel_rfl) (by kernel_rfl) (fun _ _ _ h => h) (Or.inl ⟨by kernel_rfl, ?_⟩) hHeld ?_
    rotate_left
    · intro w' hSw; (try dsimp only at hSw); go_simp
      all_goals (with_reducible rfl)
    simp only [Act.put, List.getElem_toArray, List.getElem_cons_zero, List.getElem_cons_succ, List.setIfInBounds_toArray, List.set_cons_zero, List.set_cons_succ]
    refine wpAnyH_take (i := 5) (v := ?_) rfl (by kernel_rfl) (by kernel_rfl) (by kernel_rfl) (fun _ _ _ h => h) (Or.inl ⟨by kernel_rfl, ?_⟩) hHeld ?_
    rotate_left
    · intro w' hSw; (try dsimp only at hSw); go_simp
      all_goals (with_reducible rfl)
    simp only [Act.put, List.getElem_toArray, List.getElem_cons_zero, List.getElem_cons_succ, List.setIfInBounds_toArray, List.set_cons_zero, List.set_cons_succ]
    refine wpAnyH_take (i := 6) (v := undef) rfl (by kernel_rfl) (by kernel_rfl) (by kernel_rfl) (fun _ _ _ h => h) (Or.inr ⟨by kernel_rfl, rfl⟩) hHeld ?_
    simp only [Act.put, List.getElem_toArray, List.getElem_cons_zero, List.getElem_cons_succ, List.setIfInBounds_toArray, List.set_cons_zero, List.set_cons_succ]
    refine wpAnyH_take (i := 7) (v := undef) rfl (by kernel_rfl) (by kernel_rfl) (by kernel_rfl) (fun _ _ _ h => h) (Or.inr ⟨by kernel_rfl, rfl⟩) hHeld ?_
    simp only [Act.put, List.getElem_toArray, List.getElem_cons_zero, List.getElem_cons_succ, List.setIfInBounds_toArray, List.set_cons_zero, List.set_cons_succ]
    refine wpAnyH_take (i := 8) (v := undef) rfl (by kernel_rfl) (by kernel_rfl) (by kernel_rfl) (fun _ _ _ h => h) (Or.inr ⟨by kernel_rfl, rfl⟩) hHeld ?_
    simp only [Act.put, List.getElem_toArray, List.getElem_cons_zero, List.getElem_cons_succ, List.setIfInBounds_toArray, List.set_cons_zero, List.set_cons_succ]
    refine wpAnyH_take (i := 9) (v := undef) rfl (by kernel_rfl) (by kernel_rfl) (by kernel_rfl) (fun _ _ _ h => h) (Or.inr ⟨by kernel_rfl, rfl⟩) hHeld ?_
    simp only [Act.put, List.getElem_toArray, List.getElem_cons_zero, List.getElem_cons_succ, List.setIfInBounds_toArray, List.set_cons_zero, List.set_cons_succ]
    refine wpAnyH_take (i := 10) (v := undef) rfl (by kernel_rfl) (by kernel_rfl) (by kernel_rfl) (fun _ _ _ h => h) (Or.inr ⟨by kernel_rfl, rfl⟩) hHeld ?_
    simp only [Act.put, List.getElem_toArray, List.getElem_cons_zero, List.getElem_cons_succ, List.setIfInBounds_toArray, List.set_cons_zero, List.set_cons_succ]
    refine wpAnyH_take (i := 11) (v := undef) rfl (by kernel_rfl) (by kernel_rfl) (by kernel_rfl) (fun _ _ _ h => h) (Or.inr ⟨by kernel_rfl, rfl⟩) hHeld ?_
    simp only [Act.put, List.getElem_toArray, List.getElem_cons_zero, List.getElem_cons_succ, List.setIfInBounds_toArray, List.set_cons_zero, List.set_cons_succ]
    refine wpAnyH_take (i := 12) (v := undef) rfl (by kernel_rfl) (by kernel_rfl) (by kernel_rfl) (fun _ _ _ h => h) (Or.inr ⟨by kernel_rfl, rfl⟩) hHeld ?_
    simp only [Act.put, List.getElem_toArray, List.getElem_cons_zero, List.getElem_cons_succ, List.setIfInBounds_toArray, List.set_cons_zero, List.set_cons_succ]
    refine wpAnyH_take (i := 13) (v := undef) rfl (by kernel_rfl) (by kernel_rfl) (by kernel_rfl) (fun _ _ _ h => h) (Or.inr ⟨by kernel_rfl, rfl⟩) hHeld ?_
    simp only [Act.put, List.getElem_toArray, List.getElem_cons_zero, List.getElem_cons_succ, List.setIfInBounds_toArray, List.set_cons_zero, List.set_cons_succ]
    refine wpAnyH_take (i := 14) (v := undef) rfl (by kernel_rfl) (by kernel_rfl) (by kernel_rfl) (fun _ _ _ h => h) (Or.inr ⟨by kernel_rfl, rfl⟩) hHeld ?_
    simp only [Act.put, List.getElem_toArray, List.getElem_cons_zero, List.getElem_cons_succ, List.setIfInBounds_toArray, List.set_cons_zero, List.set_cons_succ]
    refine wpAnyH_take (i := 15) (v := undef) rfl (by kernel_rfl) (by kernel_rfl) (by kernel_rfl) (fun _ _ _ h => h) (Or.inr ⟨by kernel_rfl, rfl⟩) hHeld ?_
    simp only [Act.put, List.getElem_toArray, List.getElem_cons_zero, List.getElem_cons_succ, List.setIfInBounds_toArray, List.set_cons_zero, List.set_cons_succ]
    refine wpAnyH_take (i := 16) (v := undef) rfl (by kernel_rfl) (by kernel_rfl) (by kernel_rfl) (fun _ _ _ h => h) (Or.inr ⟨by kernel_rfl, rfl⟩) hHeld ?_
    simp only [Act.put, List.getElem_toArray, List.getElem_cons_zero, List.getElem_cons_succ, List.setIfInBounds_toArray, List.set_cons_zero, List.set_cons_succ]
    refine wpAnyH_take (i := 17) (v := undef) rfl (by kernel_rfl) (by kernel_rfl) (by kernel_rfl) (fun _ _ _ h => h) (Or.inr ⟨by kernel_rfl, rfl⟩) hHeld ?_
    simp only [Act.put, List.getElem_toArray, List.getElem_cons_zero, List.getElem_cons_succ, List.setIfInBounds_toArray, List.set_cons_zero, List.set_cons_succ]
    refine wpAnyH_take (i := 18) (v := ?_) rfl (by kernel_rfl) (by kernel_rfl) (by kernel_rfl) (fun _ _ _ h => h) (Or.inl ⟨by kernel_rfl, ?_⟩) hHeld ?_
    rotate_left
    · intro w' hSw; (try dsimp only at hSw); go_simp
      all_goals (with_reducible rfl)
    simp only [Act.put, List.getElem_toArray, List.getElem_cons_zero, List.getElem_cons_succ, List.setIfInBounds_toArray, List.set_cons_zero, List.set_cons_succ]
    refine wpAnyH_done (by kernel_rfl) ?_ _
    go_wp2_with fail
    go_ret
    exact ⟨by rw [hdH.out]; rfl, hH.out, Step.drew⟩
end Go.Proofs.YtbkmnhogfegmcaaDoor
namespace Go.Proofs.YtbkmnhogfegmcaaDoor
open Go.RowKit

/-- The reader's block, and the bytes that it reads. -/
structure RdS (w : World) (R B o c : Nat) (b : Bs) (a : Nat) (e : Int) : Prop where
  cell : RdR w R (.slice (some ⟨B, o, none⟩) b.length c) a e
  bytes : ∀ i (h : i < b.length), w.cell? ⟨B, o + i, none⟩ = some (.int .u8 (b[i].toNat : Int))
  le : a ≤ b.length
  cap : b.length ≤ c
  ne : B ≠ R
  small : b.length ≤ 65536
  blt : B < w.heap.size
section
variable {w w' : World} {R B o c a a' : Nat} {b : Bs} {e e' : Int} {T : List Nat}
theorem RdS.off (h : RdS w R B o c b a e) (hs : Step T id id w w') (hR : R ∉ T) (hB : B ∉ T) : RdS w' R B o c b a e :=
  ⟨hs.at h.cell hR, fun i hi => by rw [cell_of_blk_eq (hs.keep B h.blt hB).2]; exact h.bytes i hi, h.le, h.cap, h.ne, h.small, hs.lt h.blt⟩
theorem RdS.step (h : RdS w R B o c b a e) (hs : Step [] id id w w') : RdS w' R B o c b a e := h.off hs (by simp) (by simp)
theorem RdS.to (h : RdS w R B o c b a e) (hs : Step [R] id id w w') (hc : RdR w' R (.slice (some ⟨B, o, none⟩) b.length c) a' e') (ha : a' ≤ b.length) : RdS w' R B o c b a' e' :=
  ⟨hc, fun i hi => by rw [cell_of_blk_eq (hs.keep B h.blt (by simpa using h.ne)).2]; exact h.bytes i hi, ha, h.cap, h.ne, h.small, hs.lt h.blt⟩
theorem RdS.moved (h : RdS w R B o c b a e) (n : Nat) (hn : n ≤ b.length) : RdS (w.setCell ⟨R, 1, none⟩ (.int .i64 n)) R B o c b n e :=
  h.to (.grown (set1_grown _ _ _ _) (fun k hk => by cases hk; simp)) (by have := set_blk h.cell 1 (.int .i64 n); unfold RdR; simpa using this) hn
theorem need_ok (h : RdS w R B o c b a 0) (n : Int) (hn : (a : Int) + n ≤ b.length) : Calls Tryd.prog 53 #[.pointer (some ⟨R, 0, none⟩), .int .i64 n] w fun x w' => x = .returned (.bool true) ∧ RdS w' R B o c b a 0 ∧ Step [R] id id w w' := by
  have hsm := h.small
  have hle := h.le
  refine (ref_need h.cell (by omega) (by omega)).mono ?_
  rintro x w' ⟨rfl, h1, h2⟩
  have e : (if (0 : Int) = 0 ∧ (b.length : Int) - (a : Int) < n then (2 : Int) else 0) = 0 := if_neg (by omega)
  rw [e] at h1 ⊢
  exact ⟨rfl, h.to h2 h1 hle, h2⟩
theorem need_no (h : RdS w R B o c b a 0) (n : Int) (hn : ¬ (a : Int) + n ≤ b.length) : Calls Tryd.prog 53 #[.pointer (some ⟨R, 0, none⟩), .int .i64 n] w fun x w' => x = .returned (.bool false) ∧ RdS w' R B o c b a 2 ∧ Step [R] id id w w' := by
  have hsm := h.small
  have hle := h.le
  refine (ref_need h.cell (by omega) (by omega)).mono ?_
  rintro x w' ⟨rfl, h1, h2⟩
  have e : (if (0 : Int) = 0 ∧ (b.length : Int) - (a : Int) < n then (2 : Int) else 0) = 2 := if_pos (by omega)
  rw [e] at h1 ⊢
  exact ⟨rfl, h.to h2 h1 hle, h2⟩
theorem bad_ok (h : RdS w R B o c b a 0) (n : Int) : Calls Tryd.prog 52 #[.pointer (some ⟨R, 0, none⟩), .int .i64 n] w fun x w' => x = .returned (.tuple #[]) ∧ RdS w' R B o c b a n ∧ Step [R] id id w w' := by
  refine (ref_bad h.cell n).mono ?_
  rintro x w' ⟨rfl, h1, h2⟩
  rw [if_pos rfl] at h1
  exact ⟨rfl, h.to h2 h1 h.le, h2⟩
end

theorem wrap_u (n : Int) : IntKind.u64.wrap n = n % 18446744073709551616 := by simp [IntKind.wrap, IntKind.signed, IntKind.bits]
theorem get_step {x : Bs} {c : UInt8} (hx : x.length ≤ 7) : bits .or .u64 ((((leVal x : Nat) : Int) * 256) % 18446744073709551616) ((c.toNat : Nat) : Int) = ((leVal (c :: x) : Nat) : Int) := by
  have h1 := leVal_lt x
  have h2 := c.toNat_lt
  have hp : 256 ^ x.length ≤ 256 ^ 7 := Nat.pow_le_pow_right (by omega) hx
  have he : (((leVal x : Nat) : Int) * 256) % 18446744073709551616 = ((leVal x * 256 : Nat) : Int) := by omega
  rw [he, leU64 _ _ (by omega) (by omega), show (256 : Nat) = 2 ^ 8 from rfl, nat_join 8]
  · rw [leVal]; omega
  · simp
  · exact h2
set_option maxRecDepth 100000 in
set_option maxHeartbeats 2000000 in
theorem ref_get {w : World} {B o c a : Nat} {b : Bs} (n : Nat) (hb : ∀ i (h : i < b.length), w.cell? ⟨B, o + i, none⟩ = some (.int .u8 (b[i].toNat : Int))) (hs : b.length ≤ 65536) (hn : a + n ≤ b.length) (h8 : n ≤ 8) :
    Calls Tryd.prog 54 #[.slice (some ⟨B, o, none⟩) b.length c, .int .i64 a, .int .i64 n] w fun e w' => e = .returned (.int .u64 (numAt b a n)) ∧ w = w' := by
  have hbH := Lib.hid hb
  clear hb
  have hw1 : IntKind.i64.wrap ((n : Int) - 1) = (n : Int) - 1 := IntWalk.i64_in _ (by omega)
  go_enter Tryd.func54, Tryd.ntmps54
  go_wp2_with fail
  go_loop [7, 8] (fun s i => ∃ k : Nat, k ≤ n ∧ i = .int .i64 ((k : Int) - 1) ∧ s = .int .u64 (leVal ((b.drop (a + k)).take (n - k)))) (fun _ i => (intOf i + 1).toNat)
  case atStart => exact ⟨n, Nat.le_refl _, rfl, by rw [Nat.sub_self, List.take_zero]; rfl⟩
  case round =>
    obtain ⟨k, hk, rfl, rfl⟩ := hrel
    obtain ⟨x, hx⟩ : ∃ x, x = (b.drop (a + k)).take (n - k) := ⟨_, rfl⟩
    rw [← hx]
    have hxl : x.length = n - k := by rw [hx]; exact take_len (by omega)
    by_cases hk0 : k = 0
    · subst hk0
      have hres : leVal x = numAt b a n := by rw [hx]; rfl
      have hresH := Lib.hid hres
      clear hx hres hxl
      go_wp2_with fail
      go_ret
      exact ⟨by rw [hresH.out]; rfl, rfl⟩
    · obtain ⟨k, rfl⟩ : ∃ j, k = j + 1 := ⟨k - 1, by omega⟩
      have hcell := hbH.out (a + k) (by omega)
      have hst := get_step (x := x) (c := b[a + k]) (by omega)
      have hl2 : leVal (b[a + k] :: x) = leVal ((b.drop (a + k)).take (n - k)) := by
        rw [hx, List.drop_eq_getElem_cons (show a + k < b.length by omega), show n - k = (n - (k + 1)) + 1 by omega, List.take_succ_cons]; rfl
      rw [hl2] at hst
      obtain ⟨y, hy⟩ : ∃ y : Nat, y = b[a + k].toNat := ⟨_, rfl⟩
      have hy0 := b[a + k].toNat_lt
      rw [← hy] at hcell hst hy0
      have hstH := Lib.hid hst
      clear hx hst hl2 hy hxl
      have hki : (0 : Int) ≤ ((k + 1 : Nat) : Int) - 1 := by omega
      have hkw : ((k + 1 : Nat) : Int) - 1 = (k : Int) := by omega
      rw [hkw] at hki ⊢
      have hw2 : IntKind.i64.wrap ((a : Int) + (k : Int)) = (a : Int) + (k : Int) := IntWalk.i64_in _ (by omega)
      have hw3 : IntKind.i64.wrap ((k : Int) - 1) = (k : Int) - 1 := IntWalk.i64_in _ (by omega)
      have hi1 : (a : Int) + (k : Int) < (b.length : Int) := by omega
      go_wp2_with fail
      refine ⟨⟨k, by omega, rfl, ?_⟩, by simp [intOf]⟩
      rw [← hstH.out, wrap_u]
end Go.Proofs.YtbkmnhogfegmcaaDoor

/- The ledger's functions: what each does. -/
import Derived.Test.YtlppoimdfclbaaaProg
import Derived.Test.YtlppoimdfclbaaaBase
set_option linter.unusedVariables false
set_option linter.unusedSimpArgs false
namespace Go.Proofs.Ytlppoimdfclbaaa
open Go.RowKit

structure Led where
  budget : Int
  held : Int
  high : Int

structure LedgerAt (g : Nat → Nat) (w : World) (p : Nat) (L : Led) : Prop where
  blk : w.heap[p]? = some (.cells #[.int .i64 L.budget, .int .i64 L.held, .int .i64 L.high] 72 (0, 0))
  own : g p = p
  h0 : 0 ≤ L.held
  h1 : L.held ≤ 1099511627776
  hi0 : 0 ≤ L.high
  hi1 : L.high ≤ 1099511627776
  b0 : 0 ≤ L.budget
  b1 : L.budget ≤ 16777216

theorem LedgerAt.step {T : List Nat} {g g1 : Nat → Nat} {w w1 : World} {p : Nat} {L : Led} (h : LedgerAt g w p L) (hs : Step T g g1 w w1) (hp : p ∉ T) : LedgerAt g1 w1 p L :=
  ⟨hs.at h.blk (by rw [h.own]; exact hp), by rw [hs.own_at h.blk (by rw [h.own]; exact hp)]; exact h.own, h.h0, h.h1, h.hi0, h.hi1, h.b0, h.b1⟩

theorem LedgerAt.lt {g : Nat → Nat} {w : World} {p : Nat} {L : Led} (h : LedgerAt g w p L) : p < w.heap.size := lt_of_block h.blk

set_option maxHeartbeats 400000 in
theorem ledger_new (b : Int) (g : Nat → Nat) (w : World) (hg : GWf g w) :
    Calls Try.prog 12 #[.int .i64 b] w fun e w' => e = .returned (.pointer (some ⟨w.heap.size, 0, none⟩)) ∧ LedgerAt g w' w.heap.size ⟨min (max b 0) 16777216, 0, 0⟩ ∧ Step [] g g w w' ∧ w'.heap.size = w.heap.size + 1 := by
  go_enter Try.func12, Try.ntmps12
  go_wp2
  all_goals go_ret
  all_goals
    refine ⟨rfl, ⟨?_, hg.2 _ (Nat.le_refl _), by simp only; omega, by simp only; omega, by simp only; omega, by simp only; omega, by simp only; omega, by simp only; omega⟩, Step.alloc _, by simp⟩
    simp only
    have e : ∀ x y : Int, x = y → (w.alloc (.cells #[.int .i64 y, .int .i64 0, .int .i64 0] 72)).heap[w.heap.size]? = some (.cells #[.int .i64 x, .int .i64 0, .int .i64 0] 72 (0, 0)) := by
      intro x y h; rw [h]; exact heap_alloc_new w _
    exact e _ _ (by omega)

set_option maxHeartbeats 400000 in
theorem ledger_take (n : Int) (g : Nat → Nat) (w : World) (p : Nat) (L : Led) (hL : LedgerAt g w p L) (h0 : 0 ≤ n) (h1 : n ≤ 16777216) (h2 : n + L.held ≤ 1099511627776) :
    Calls Try.prog 35 #[.pointer (some ⟨p, 0, none⟩), .int .i64 n] w fun e w' => e = .returned (.bool true) ∧ LedgerAt g w' p ⟨L.budget, L.held + n, max L.high (L.held + n)⟩ ∧ Step [p] g g w w' ∧ w'.heap.size = w.heap.size := by
  obtain ⟨bu, he, hi⟩ := L
  obtain ⟨hb, ho, a0, a1, a2, a3, a4, a5⟩ := hL
  simp only at *
  have c0 := cell_blk hb (i := 0) rfl
  have c1 := cell_blk hb (i := 1) rfl
  have c2 := cell_blk hb (i := 2) rfl
  have f0 := free_blk hb
  have hbH := Lib.hid hb; clear hb
  have hoH := Lib.hid ho; clear ho
  have n1 : ¬ (n < 0) := by omega
  have n2 : ¬ (n > 16777216) := by omega
  have n3 : ¬ (n > 1099511627776 - he) := by omega
  go_enter Try.func35, Try.ntmps35
  go_wp2
  go_region
  all_goals go_wp2
  all_goals go_ret
  all_goals
    have hb := hbH.out
    have ho := hoH.out
    refine ⟨rfl, ⟨?_, ho, by simp only; omega, by simp only; omega, by simp only; omega, by simp only; omega, a4, a5⟩, ?_, by simp⟩
    · have e1 := set_blk hb 1 (.int .i64 (he + n))
      have e2 := set_blk e1 2 (.int .i64 (max hi (he + n)))
      simp only [List.setIfInBounds_toArray, List.set_cons_succ, List.set_cons_zero] at e2
      first
      | (rw [Int.max_eq_right (by omega)] at e2 ⊢; exact e2)
      | (rw [Int.max_eq_left (by omega)] at e2 ⊢; exact e2)
    · exact ((Step.set _ _ (by simp [ho])).tail (Step.set _ _ (by simp [ho]))).tail Step.drew

set_option maxHeartbeats 400000 in
theorem ledger_give (n : Int) (g : Nat → Nat) (w : World) (p : Nat) (L : Led) (hL : LedgerAt g w p L) (h0 : 0 ≤ n) (h1 : n ≤ L.held) :
    Calls Try.prog 43 #[.pointer (some ⟨p, 0, none⟩), .int .i64 n] w fun e w' => e = .returned (.bool true) ∧ LedgerAt g w' p ⟨L.budget, L.held - n, L.high⟩ ∧ Step [p] g g w w' ∧ w'.heap.size = w.heap.size := by
  obtain ⟨bu, he, hi⟩ := L
  obtain ⟨hb, ho, a0, a1, a2, a3, a4, a5⟩ := hL
  simp only at *
  have c0 := cell_blk hb (i := 0) rfl
  have c1 := cell_blk hb (i := 1) rfl
  have c2 := cell_blk hb (i := 2) rfl
  have f0 := free_blk hb
  have hbH := Lib.hid hb; clear hb
  have hoH := Lib.hid ho; clear ho
  have n1 : ¬ (n < 0) := by omega
  have n2 : ¬ (n > he) := by omega
  go_enter Try.func43, Try.ntmps43
  go_wp2
  go_ret
  have hb := hbH.out
  have ho := hoH.out
  refine ⟨rfl, ⟨?_, ho, by simp only; omega, by simp only; omega, a2, a3, a4, a5⟩, ?_, by simp⟩
  · have e1 := set_blk hb 1 (.int .i64 (he - n))
    simp only [List.setIfInBounds_toArray, List.set_cons_succ, List.set_cons_zero] at e1
    exact e1
  · exact Step.set _ _ (by simp [ho])

theorem ledger_held (g : Nat → Nat) (w : World) (p : Nat) (L : Led) (hL : LedgerAt g w p L) :
    Calls Try.prog 14 #[.pointer (some ⟨p, 0, none⟩)] w fun e w' => e = .returned (.int .i64 L.held) ∧ w = w' := by
  have c1 := cell_blk hL.blk (i := 1) rfl
  clear hL
  go_enter Try.func14, Try.ntmps14
  go_wp2
  go_ret
  exact ⟨rfl, rfl⟩

theorem ledger_most (g : Nat → Nat) (w : World) (p : Nat) (L : Led) (hL : LedgerAt g w p L) :
    Calls Try.prog 31 #[.pointer (some ⟨p, 0, none⟩)] w fun e w' => e = .returned (.int .i64 L.high) ∧ w = w' := by
  have c1 := cell_blk hL.blk (i := 2) rfl
  clear hL
  go_enter Try.func31, Try.ntmps31
  go_wp2
  go_ret
  exact ⟨rfl, rfl⟩
end Go.Proofs.Ytlppoimdfclbaaa

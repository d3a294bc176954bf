/- bson: code, known, plain, must. -/
import Derived.Test.YtembpajlllnncaaGreatDoorProg
import Derived.Test.YtembpajlllnncaaGreatDoorBsW
import Derived.Laws.Strings
set_option linter.unusedVariables false
set_option linter.unusedSimpArgs false
namespace Go.Proofs.YtembpajlllnncaaGreatDoor
open Go.RowKit

set_option maxRecDepth 100000 in
set_option maxHeartbeats 1000000 in
theorem bs_code (k : Int) (w : World) : Calls Tryz.prog 100 #[.int .i64 k] w fun e w' => e = .returned (.int .u8 ((codeOf k).toNat : Int)) ∧ w = w' := by
 unfold codeOf
 by_cases h1 : k = 1
 ·subst h1; go_enter Tryz.func100, Tryz.ntmps100; go_wp2; go_ret; exact ⟨rfl, rfl⟩
 by_cases h2 : k = 2
 ·subst h2; go_enter Tryz.func100, Tryz.ntmps100; go_wp2; go_ret; exact ⟨rfl, rfl⟩
 by_cases h3 : k = 3
 ·subst h3; go_enter Tryz.func100, Tryz.ntmps100; go_wp2; go_ret; exact ⟨rfl, rfl⟩
 by_cases h4 : k = 4
 ·subst h4; go_enter Tryz.func100, Tryz.ntmps100; go_wp2; go_ret; exact ⟨rfl, rfl⟩
 by_cases h5 : k = 5
 ·subst h5; go_enter Tryz.func100, Tryz.ntmps100; go_wp2; go_ret; exact ⟨rfl, rfl⟩
 by_cases h6 : k = 6
 ·subst h6; go_enter Tryz.func100, Tryz.ntmps100; go_wp2; go_ret; exact ⟨rfl, rfl⟩
 by_cases h7 : k = 7
 ·subst h7; go_enter Tryz.func100, Tryz.ntmps100; go_wp2; go_ret; exact ⟨rfl, rfl⟩
 by_cases h8 : k = 8
 ·subst h8; go_enter Tryz.func100, Tryz.ntmps100; go_wp2; go_ret; exact ⟨rfl, rfl⟩
 by_cases h9 : k = 9
 ·subst h9; go_enter Tryz.func100, Tryz.ntmps100; go_wp2; go_ret; exact ⟨rfl, rfl⟩
 by_cases h10 : k = 10
 ·subst h10; go_enter Tryz.func100, Tryz.ntmps100; go_wp2; go_ret; exact ⟨rfl, rfl⟩
 by_cases h11 : k = 11
 ·subst h11; go_enter Tryz.func100, Tryz.ntmps100; go_wp2; go_ret; exact ⟨rfl, rfl⟩
 by_cases h12 : k = 12
 ·subst h12; go_enter Tryz.func100, Tryz.ntmps100; go_wp2; go_ret; exact ⟨rfl, rfl⟩
 rw [if_neg h1, if_neg h2, if_neg h3, if_neg h4, if_neg h5, if_neg h6, if_neg h7, if_neg h8, if_neg h9, if_neg h10, if_neg h11, if_neg h12]
 go_enter Tryz.func100, Tryz.ntmps100
 go_wp2
 go_ret
 exact ⟨rfl, rfl⟩

set_option maxRecDepth 100000 in
set_option maxHeartbeats 1000000 in
theorem bs_must (e : Int) (w : World) (r : Bool) : Calls Tryz.prog 72 #[.bool r, .int .i64 e] w fun x w' => x = (if r = true then .returned (.tuple #[]) else .panicked [{ v := .iface 39 (.int .i64 e), recovered := false }]) ∧ w = w' := by
 cases r
 ·go_enter Tryz.func72, Tryz.ntmps72
  go_wp2
  exact ⟨rfl, rfl, rfl⟩
 ·go_enter Tryz.func72, Tryz.ntmps72
  go_wp2
  go_end0
  exact ⟨rfl, rfl⟩

set_option maxRecDepth 100000 in
set_option maxHeartbeats 2000000 in
theorem bs_plain {P : Nat → Prop} (x : Val) (cs : List Value) (w : World) (h : VIs P w x cs) : Calls Tryz.prog 55 #[.agg cs.toArray] w fun e w' => e = .returned (.bool x.plain) ∧ w.grownBy w' none := by
 obtain ⟨bv, fa, fc, la, lc, rfl, h2, h3, h4, h5, h6, h7⟩ := h.cells
 cases x with
 | mk k n s b f l =>
  simp only [Val.kind, Val.num, Val.s, Val.b, Val.f, Val.l] at *
  obtain ⟨ba, bc, rfl⟩ : ∃ ba bc, bv = .slice ba b.length bc := by
   rcases h2 with ⟨a, c, rfl, rfl, _⟩ | ⟨bb, o, c, rfl, _⟩
   ·exact ⟨a, c, rfl⟩
   ·exact ⟨_, c, rfl⟩
  obtain ⟨h4a, h4b, h4c, h4d⟩ := h4
  obtain ⟨h5a, h5b, h5c, h5d⟩ := h5
  clear h h2 h3 h6 h7
  rcases Nat.eq_zero_or_pos s.length with hs0 | hs0
  ·have hsE : (strOf s).toList.isEmpty = true := by
    rw [show (strOf s).toList = s by simp [strOf, ByteArray.toList_eq]]; simpa using List.length_eq_zero_iff.1 hs0
   by_cases k3 : k = 3
   ·subst k3
    go_enter Tryz.func55, Tryz.ntmps55
    go_wp2
    all_goals
     go_ret
     refine ⟨congrArg (fun b => Ending.returned (Value.bool b)) ?_, World.grownBy_alloc w _ none⟩
     rw [Bool.eq_iff_iff]
     simp only [Val.plain, Bool.and_eq_true, Bool.or_eq_true, decide_eq_true_eq, List.isEmpty_iff, beq_iff_eq, Bool.false_eq_true, false_iff, true_iff, ← List.length_eq_zero_iff]
     try simp only [hsE] at *
     try simp only [beq_iff_eq, Bool.true_eq_false, Bool.false_eq_true] at *
     try simp only [true_or, or_true, true_and, and_true]
     omega
   by_cases k4 : k = 4
   ·subst k4
    go_enter Tryz.func55, Tryz.ntmps55
    go_wp2
    all_goals
     go_ret
     refine ⟨congrArg (fun b => Ending.returned (Value.bool b)) ?_, World.grownBy_alloc w _ none⟩
     rw [Bool.eq_iff_iff]
     simp only [Val.plain, Bool.and_eq_true, Bool.or_eq_true, decide_eq_true_eq, List.isEmpty_iff, beq_iff_eq, Bool.false_eq_true, false_iff, true_iff, ← List.length_eq_zero_iff]
     try simp only [hsE] at *
     try simp only [beq_iff_eq, Bool.true_eq_false, Bool.false_eq_true] at *
     try simp only [true_or, or_true, true_and, and_true]
     omega
   by_cases k10 : k = 10
   ·subst k10
    go_enter Tryz.func55, Tryz.ntmps55
    go_wp2
    all_goals
     go_ret
     refine ⟨congrArg (fun b => Ending.returned (Value.bool b)) ?_, World.grownBy_alloc w _ none⟩
     rw [Bool.eq_iff_iff]
     simp only [Val.plain, Bool.and_eq_true, Bool.or_eq_true, decide_eq_true_eq, List.isEmpty_iff, beq_iff_eq, Bool.false_eq_true, false_iff, true_iff, ← List.length_eq_zero_iff]
     try simp only [hsE] at *
     try simp only [beq_iff_eq, Bool.true_eq_false, Bool.false_eq_true] at *
     try simp only [true_or, or_true, true_and, and_true]
     omega
   by_cases k11 : k = 11
   ·subst k11
    go_enter Tryz.func55, Tryz.ntmps55
    go_wp2
    all_goals
     go_ret
     refine ⟨congrArg (fun b => Ending.returned (Value.bool b)) ?_, World.grownBy_alloc w _ none⟩
     rw [Bool.eq_iff_iff]
     simp only [Val.plain, Bool.and_eq_true, Bool.or_eq_true, decide_eq_true_eq, List.isEmpty_iff, beq_iff_eq, Bool.false_eq_true, false_iff, true_iff, ← List.length_eq_zero_iff]
     try simp only [hsE] at *
     try simp only [beq_iff_eq, Bool.true_eq_false, Bool.false_eq_true] at *
     try simp only [true_or, or_true, true_and, and_true]
     omega
   by_cases k5 : k = 5
   ·subst k5
    go_enter Tryz.func55, Tryz.ntmps55
    go_wp2
    all_goals
     go_ret
     refine ⟨congrArg (fun b => Ending.returned (Value.bool b)) ?_, World.grownBy_alloc w _ none⟩
     rw [Bool.eq_iff_iff]
     simp only [Val.plain, Bool.and_eq_true, Bool.or_eq_true, decide_eq_true_eq, List.isEmpty_iff, beq_iff_eq, Bool.false_eq_true, false_iff, true_iff, ← List.length_eq_zero_iff]
     try simp only [hsE] at *
     try simp only [beq_iff_eq, Bool.true_eq_false, Bool.false_eq_true] at *
     try simp only [true_or, or_true, true_and, and_true]
     omega
   by_cases k8 : k = 8
   ·subst k8
    go_enter Tryz.func55, Tryz.ntmps55
    go_wp2
    all_goals
     go_ret
     refine ⟨congrArg (fun b => Ending.returned (Value.bool b)) ?_, World.grownBy_alloc w _ none⟩
     rw [Bool.eq_iff_iff]
     simp only [Val.plain, Bool.and_eq_true, Bool.or_eq_true, decide_eq_true_eq, List.isEmpty_iff, beq_iff_eq, Bool.false_eq_true, false_iff, true_iff, ← List.length_eq_zero_iff]
     try simp only [hsE] at *
     try simp only [beq_iff_eq, Bool.true_eq_false, Bool.false_eq_true] at *
     try simp only [true_or, or_true, true_and, and_true]
     omega
   by_cases k9 : k = 9
   ·subst k9
    go_enter Tryz.func55, Tryz.ntmps55
    go_wp2
    all_goals
     go_ret
     refine ⟨congrArg (fun b => Ending.returned (Value.bool b)) ?_, World.grownBy_alloc w _ none⟩
     rw [Bool.eq_iff_iff]
     simp only [Val.plain, Bool.and_eq_true, Bool.or_eq_true, decide_eq_true_eq, List.isEmpty_iff, beq_iff_eq, Bool.false_eq_true, false_iff, true_iff, ← List.length_eq_zero_iff]
     try simp only [hsE] at *
     try simp only [beq_iff_eq, Bool.true_eq_false, Bool.false_eq_true] at *
     try simp only [true_or, or_true, true_and, and_true]
     omega
   by_cases k6 : k = 6
   ·subst k6
    go_enter Tryz.func55, Tryz.ntmps55
    go_wp2
    all_goals
     go_ret
     refine ⟨congrArg (fun b => Ending.returned (Value.bool b)) ?_, World.grownBy_alloc w _ none⟩
     rw [Bool.eq_iff_iff]
     simp only [Val.plain, Bool.and_eq_true, Bool.or_eq_true, decide_eq_true_eq, List.isEmpty_iff, beq_iff_eq, Bool.false_eq_true, false_iff, true_iff, ← List.length_eq_zero_iff]
     try simp only [hsE] at *
     try simp only [beq_iff_eq, Bool.true_eq_false, Bool.false_eq_true] at *
     try simp only [true_or, or_true, true_and, and_true]
     omega
   by_cases k7 : k = 7
   ·subst k7
    go_enter Tryz.func55, Tryz.ntmps55
    go_wp2
    all_goals
     go_ret
     refine ⟨congrArg (fun b => Ending.returned (Value.bool b)) ?_, World.grownBy_alloc w _ none⟩
     rw [Bool.eq_iff_iff]
     simp only [Val.plain, Bool.and_eq_true, Bool.or_eq_true, decide_eq_true_eq, List.isEmpty_iff, beq_iff_eq, Bool.false_eq_true, false_iff, true_iff, ← List.length_eq_zero_iff]
     try simp only [hsE] at *
     try simp only [beq_iff_eq, Bool.true_eq_false, Bool.false_eq_true] at *
     try simp only [true_or, or_true, true_and, and_true]
     omega
   go_enter Tryz.func55, Tryz.ntmps55
   go_wp2
   all_goals
    go_ret
    refine ⟨congrArg (fun b => Ending.returned (Value.bool b)) ?_, World.grownBy_alloc w _ none⟩
    rw [Bool.eq_iff_iff]
    simp only [Val.plain, Bool.and_eq_true, Bool.or_eq_true, decide_eq_true_eq, List.isEmpty_iff, beq_iff_eq, Bool.false_eq_true, false_iff, true_iff, ← List.length_eq_zero_iff]
    try simp only [hsE] at *
    try simp only [beq_iff_eq, Bool.true_eq_false, Bool.false_eq_true] at *
    try simp only [true_or, or_true, true_and, and_true]
    omega
  ·have hsE : (strOf s).toList.isEmpty = false := by
    rw [show (strOf s).toList = s by simp [strOf, ByteArray.toList_eq]]; cases s <;> simp at hs0 ⊢
   by_cases k3 : k = 3
   ·subst k3
    go_enter Tryz.func55, Tryz.ntmps55
    go_wp2
    all_goals
     go_ret
     refine ⟨congrArg (fun b => Ending.returned (Value.bool b)) ?_, World.grownBy_alloc w _ none⟩
     rw [Bool.eq_iff_iff]
     simp only [Val.plain, Bool.and_eq_true, Bool.or_eq_true, decide_eq_true_eq, List.isEmpty_iff, beq_iff_eq, Bool.false_eq_true, false_iff, true_iff, ← List.length_eq_zero_iff]
     try simp only [hsE] at *
     try simp only [beq_iff_eq, Bool.true_eq_false, Bool.false_eq_true] at *
     try simp only [true_or, or_true, true_and, and_true]
     omega
   by_cases k4 : k = 4
   ·subst k4
    go_enter Tryz.func55, Tryz.ntmps55
    go_wp2
    all_goals
     go_ret
     refine ⟨congrArg (fun b => Ending.returned (Value.bool b)) ?_, World.grownBy_alloc w _ none⟩
     rw [Bool.eq_iff_iff]
     simp only [Val.plain, Bool.and_eq_true, Bool.or_eq_true, decide_eq_true_eq, List.isEmpty_iff, beq_iff_eq, Bool.false_eq_true, false_iff, true_iff, ← List.length_eq_zero_iff]
     try simp only [hsE] at *
     try simp only [beq_iff_eq, Bool.true_eq_false, Bool.false_eq_true] at *
     try simp only [true_or, or_true, true_and, and_true]
     omega
   by_cases k10 : k = 10
   ·subst k10
    go_enter Tryz.func55, Tryz.ntmps55
    go_wp2
    all_goals
     go_ret
     refine ⟨congrArg (fun b => Ending.returned (Value.bool b)) ?_, World.grownBy_alloc w _ none⟩
     rw [Bool.eq_iff_iff]
     simp only [Val.plain, Bool.and_eq_true, Bool.or_eq_true, decide_eq_true_eq, List.isEmpty_iff, beq_iff_eq, Bool.false_eq_true, false_iff, true_iff, ← List.length_eq_zero_iff]
     try simp only [hsE] at *
     try simp only [beq_iff_eq, Bool.true_eq_false, Bool.false_eq_true] at *
     try simp only [true_or, or_true, true_and, and_true]
     omega
   by_cases k11 : k = 11
   ·subst k11
    go_enter Tryz.func55, Tryz.ntmps55
    go_wp2
    all_goals
     go_ret
     refine ⟨congrArg (fun b => Ending.returned (Value.bool b)) ?_, World.grownBy_alloc w _ none⟩
     rw [Bool.eq_iff_iff]
     simp only [Val.plain, Bool.and_eq_true, Bool.or_eq_true, decide_eq_true_eq, List.isEmpty_iff, beq_iff_eq, Bool.false_eq_true, false_iff, true_iff, ← List.length_eq_zero_iff]
     try simp only [hsE] at *
     try simp only [beq_iff_eq, Bool.true_eq_false, Bool.false_eq_true] at *
     try simp only [true_or, or_true, true_and, and_true]
     omega
   by_cases k5 : k = 5
   ·subst k5
    go_enter Tryz.func55, Tryz.ntmps55
    go_wp2
    all_goals
     go_ret
     refine ⟨congrArg (fun b => Ending.returned (Value.bool b)) ?_, World.grownBy_alloc w _ none⟩
     rw [Bool.eq_iff_iff]
     simp only [Val.plain, Bool.and_eq_true, Bool.or_eq_true, decide_eq_true_eq, List.isEmpty_iff, beq_iff_eq, Bool.false_eq_true, false_iff, true_iff, ← List.length_eq_zero_iff]
     try simp only [hsE] at *
     try simp only [beq_iff_eq, Bool.true_eq_false, Bool.false_eq_true] at *
     try simp only [true_or, or_true, true_and, and_true]
     omega
   by_cases k8 : k = 8
   ·subst k8
    go_enter Tryz.func55, Tryz.ntmps55
    go_wp2
    all_goals
     go_ret
     refine ⟨congrArg (fun b => Ending.returned (Value.bool b)) ?_, World.grownBy_alloc w _ none⟩
     rw [Bool.eq_iff_iff]
     simp only [Val.plain, Bool.and_eq_true, Bool.or_eq_true, decide_eq_true_eq, List.isEmpty_iff, beq_iff_eq, Bool.false_eq_true, false_iff, true_iff, ← List.length_eq_zero_iff]
     try simp only [hsE] at *
     try simp only [beq_iff_eq, Bool.true_eq_false, Bool.false_eq_true] at *
     try simp only [true_or, or_true, true_and, and_true]
     omega
   by_cases k9 : k = 9
   ·subst k9
    go_enter Tryz.func55, Tryz.ntmps55
    go_wp2
    all_goals
     go_ret
     refine ⟨congrArg (fun b => Ending.returned (Value.bool b)) ?_, World.grownBy_alloc w _ none⟩
     rw [Bool.eq_iff_iff]
     simp only [Val.plain, Bool.and_eq_true, Bool.or_eq_true, decide_eq_true_eq, List.isEmpty_iff, beq_iff_eq, Bool.false_eq_true, false_iff, true_iff, ← List.length_eq_zero_iff]
     try simp only [hsE] at *
     try simp only [beq_iff_eq, Bool.true_eq_false, Bool.false_eq_true] at *
     try simp only [true_or, or_true, true_and, and_true]
     omega
   by_cases k6 : k = 6
   ·subst k6
    go_enter Tryz.func55, Tryz.ntmps55
    go_wp2
    all_goals
     go_ret
     refine ⟨congrArg (fun b => Ending.returned (Value.bool b)) ?_, World.grownBy_alloc w _ none⟩
     rw [Bool.eq_iff_iff]
     simp only [Val.plain, Bool.and_eq_true, Bool.or_eq_true, decide_eq_true_eq, List.isEmpty_iff, beq_iff_eq, Bool.false_eq_true, false_iff, true_iff, ← List.length_eq_zero_iff]
     try simp only [hsE] at *
     try simp only [beq_iff_eq, Bool.true_eq_false, Bool.false_eq_true] at *
     try simp only [true_or, or_true, true_and, and_true]
     omega
   by_cases k7 : k = 7
   ·subst k7
    go_enter Tryz.func55, Tryz.ntmps55
    go_wp2
    all_goals
     go_ret
     refine ⟨congrArg (fun b => Ending.returned (Value.bool b)) ?_, World.grownBy_alloc w _ none⟩
     rw [Bool.eq_iff_iff]
     simp only [Val.plain, Bool.and_eq_true, Bool.or_eq_true, decide_eq_true_eq, List.isEmpty_iff, beq_iff_eq, Bool.false_eq_true, false_iff, true_iff, ← List.length_eq_zero_iff]
     try simp only [hsE] at *
     try simp only [beq_iff_eq, Bool.true_eq_false, Bool.false_eq_true] at *
     try simp only [true_or, or_true, true_and, and_true]
     omega
   go_enter Tryz.func55, Tryz.ntmps55
   go_wp2
   all_goals
    go_ret
    refine ⟨congrArg (fun b => Ending.returned (Value.bool b)) ?_, World.grownBy_alloc w _ none⟩
    rw [Bool.eq_iff_iff]
    simp only [Val.plain, Bool.and_eq_true, Bool.or_eq_true, decide_eq_true_eq, List.isEmpty_iff, beq_iff_eq, Bool.false_eq_true, false_iff, true_iff, ← List.length_eq_zero_iff]
    try simp only [hsE] at *
    try simp only [beq_iff_eq, Bool.true_eq_false, Bool.false_eq_true] at *
    try simp only [true_or, or_true, true_and, and_true]
    omega
end Go.Proofs.YtembpajlllnncaaGreatDoor

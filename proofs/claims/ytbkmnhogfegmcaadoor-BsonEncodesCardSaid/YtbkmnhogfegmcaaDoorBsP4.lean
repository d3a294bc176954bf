/- The reference: bare, NameMay. -/
import Derived.Test.YtbkmnhogfegmcaaDoorBsP3
set_option linter.unusedVariables false
set_option linter.unusedSimpArgs false
namespace Go.Proofs.YtbkmnhogfegmcaaDoor
open Go.RowKit

def bareB : Val → Bool → Bool → Bool → Bool → Bool → Bool
  | .mk _ num s' b' f' l', n, s, b, f, l => (n || decide (num = 0)) && (s || s'.isEmpty) && (b || b'.isEmpty) && (f || f'.isEmpty) && (l || l'.isEmpty)
def BoolP (r : Bool) (w : World) (e : Ending) (w' : World) : Prop := e = .returned (.bool r) ∧ Step [] id id w w'
set_option maxRecDepth 100000 in
set_option maxHeartbeats 2000000 in
theorem ref_bare_0 {P : Nat → Prop} {x : Val} {cs : List Value} {w : World} (h : VIs P w x cs) : Calls Tryd.prog 67 #[.agg cs.toArray, .bool false, .bool false, .bool false, .bool false, .bool false] w (BoolP (bareB x false false false false false) w) := by
  obtain ⟨bv, fa, fc, la, lc, rfl, h2, h3, h4, h5, h6, h7⟩ := h.cells
  obtain ⟨ba, bc, rfl⟩ := h2.shape
  cases x with
  | mk k n s b f l =>
    simp only [Val.kind, Val.num, Val.s, Val.b, Val.f, Val.l] at *
    obtain ⟨h4a, h4b, h4c, h4d⟩ := h4
    obtain ⟨h5a, h5b, h5c, h5d⟩ := h5
    clear h h2 h3 h6 h7
    rcases Nat.eq_zero_or_pos s.length with hs0 | hs0
    · have hsE : (strOf s).toList.isEmpty = true := by
        rw [show (strOf s).toList = s by simp [strOf, ByteArray.toList_eq]]; simpa using List.length_eq_zero_iff.1 hs0
      go_enter Tryd.func67, Tryd.ntmps67
      go_wp2
      all_goals
        go_ret
        refine ⟨congrArg (fun b => Ending.returned (Value.bool b)) ?_, Step.alloc _⟩
        rw [Bool.eq_iff_iff]
        simp only [bareB, Val.num, Val.s, Val.b, Val.f, Val.l, Bool.and_eq_true, Bool.or_eq_true, decide_eq_true_eq, List.isEmpty_iff, beq_iff_eq, Bool.false_eq_true, false_iff, true_iff, ← List.length_eq_zero_iff]
        try simp only [hsE] at *
        try simp only [beq_iff_eq, Bool.true_eq_false, Bool.false_eq_true] at *
        try simp only [true_or, or_true, true_and, and_true]
        try simp only [← List.length_eq_zero_iff] at *
        try simp only [false_or, true_or, true_and, and_true, decide_eq_true_eq]
        omega
    · have hsE : (strOf s).toList.isEmpty = false := by
        rw [show (strOf s).toList = s by simp [strOf, ByteArray.toList_eq]]; cases s <;> simp at hs0 ⊢
      go_enter Tryd.func67, Tryd.ntmps67
      go_wp2
      all_goals
        go_ret
        refine ⟨congrArg (fun b => Ending.returned (Value.bool b)) ?_, Step.alloc _⟩
        rw [Bool.eq_iff_iff]
        simp only [bareB, Val.num, Val.s, Val.b, Val.f, Val.l, Bool.and_eq_true, Bool.or_eq_true, decide_eq_true_eq, List.isEmpty_iff, beq_iff_eq, Bool.false_eq_true, false_iff, true_iff, ← List.length_eq_zero_iff]
        try simp only [hsE] at *
        try simp only [beq_iff_eq, Bool.true_eq_false, Bool.false_eq_true] at *
        try simp only [true_or, or_true, true_and, and_true]
        try simp only [← List.length_eq_zero_iff] at *
        try simp only [false_or, true_or, true_and, and_true, decide_eq_true_eq]
        omega
set_option maxRecDepth 100000 in
set_option maxHeartbeats 2000000 in
theorem ref_bare_n {P : Nat → Prop} {x : Val} {cs : List Value} {w : World} (h : VIs P w x cs) : Calls Tryd.prog 67 #[.agg cs.toArray, .bool true, .bool false, .bool false, .bool false, .bool false] w (BoolP (bareB x true false false false false) w) := by
  obtain ⟨bv, fa, fc, la, lc, rfl, h2, h3, h4, h5, h6, h7⟩ := h.cells
  obtain ⟨ba, bc, rfl⟩ := h2.shape
  cases x with
  | mk k n s b f l =>
    simp only [Val.kind, Val.num, Val.s, Val.b, Val.f, Val.l] at *
    obtain ⟨h4a, h4b, h4c, h4d⟩ := h4
    obtain ⟨h5a, h5b, h5c, h5d⟩ := h5
    clear h h2 h3 h6 h7
    rcases Nat.eq_zero_or_pos s.length with hs0 | hs0
    · have hsE : (strOf s).toList.isEmpty = true := by
        rw [show (strOf s).toList = s by simp [strOf, ByteArray.toList_eq]]; simpa using List.length_eq_zero_iff.1 hs0
      go_enter Tryd.func67, Tryd.ntmps67
      go_wp2
      all_goals
        go_ret
        refine ⟨congrArg (fun b => Ending.returned (Value.bool b)) ?_, Step.alloc _⟩
        rw [Bool.eq_iff_iff]
        simp only [bareB, Val.num, Val.s, Val.b, Val.f, Val.l, Bool.and_eq_true, Bool.or_eq_true, decide_eq_true_eq, List.isEmpty_iff, beq_iff_eq, Bool.false_eq_true, false_iff, true_iff, ← List.length_eq_zero_iff]
        try simp only [hsE] at *
        try simp only [beq_iff_eq, Bool.true_eq_false, Bool.false_eq_true] at *
        try simp only [true_or, or_true, true_and, and_true]
        try simp only [← List.length_eq_zero_iff] at *
        try simp only [false_or, true_or, true_and, and_true, decide_eq_true_eq]
        omega
    · have hsE : (strOf s).toList.isEmpty = false := by
        rw [show (strOf s).toList = s by simp [strOf, ByteArray.toList_eq]]; cases s <;> simp at hs0 ⊢
      go_enter Tryd.func67, Tryd.ntmps67
      go_wp2
      all_goals
        go_ret
        refine ⟨congrArg (fun b => Ending.returned (Value.bool b)) ?_, Step.alloc _⟩
        rw [Bool.eq_iff_iff]
        simp only [bareB, Val.num, Val.s, Val.b, Val.f, Val.l, Bool.and_eq_true, Bool.or_eq_true, decide_eq_true_eq, List.isEmpty_iff, beq_iff_eq, Bool.false_eq_true, false_iff, true_iff, ← List.length_eq_zero_iff]
        try simp only [hsE] at *
        try simp only [beq_iff_eq, Bool.true_eq_false, Bool.false_eq_true] at *
        try simp only [true_or, or_true, true_and, and_true]
        try simp only [← List.length_eq_zero_iff] at *
        try simp only [false_or, true_or, true_and, and_true, decide_eq_true_eq]
        omega
set_option maxRecDepth 100000 in
set_option maxHeartbeats 2000000 in
theorem ref_bare_s {P : Nat → Prop} {x : Val} {cs : List Value} {w : World} (h : VIs P w x cs) : Calls Tryd.prog 67 #[.agg cs.toArray, .bool false, .bool true, .bool false, .bool false, .bool false] w (BoolP (bareB x false true false false false) w) := by
  obtain ⟨bv, fa, fc, la, lc, rfl, h2, h3, h4, h5, h6, h7⟩ := h.cells
  obtain ⟨ba, bc, rfl⟩ := h2.shape
  cases x with
  | mk k n s b f l =>
    simp only [Val.kind, Val.num, Val.s, Val.b, Val.f, Val.l] at *
    obtain ⟨h4a, h4b, h4c, h4d⟩ := h4
    obtain ⟨h5a, h5b, h5c, h5d⟩ := h5
    clear h h2 h3 h6 h7
    rcases Nat.eq_zero_or_pos s.length with hs0 | hs0
    · have hsE : (strOf s).toList.isEmpty = true := by
        rw [show (strOf s).toList = s by simp [strOf, ByteArray.toList_eq]]; simpa using List.length_eq_zero_iff.1 hs0
      go_enter Tryd.func67, Tryd.ntmps67
      go_wp2
      all_goals
        go_ret
        refine ⟨congrArg (fun b => Ending.returned (Value.bool b)) ?_, Step.alloc _⟩
        rw [Bool.eq_iff_iff]
        simp only [bareB, Val.num, Val.s, Val.b, Val.f, Val.l, Bool.and_eq_true, Bool.or_eq_true, decide_eq_true_eq, List.isEmpty_iff, beq_iff_eq, Bool.false_eq_true, false_iff, true_iff, ← List.length_eq_zero_iff]
        try simp only [hsE] at *
        try simp only [beq_iff_eq, Bool.true_eq_false, Bool.false_eq_true] at *
        try simp only [true_or, or_true, true_and, and_true]
        try simp only [← List.length_eq_zero_iff] at *
        try simp only [false_or, true_or, true_and, and_true, decide_eq_true_eq]
        omega
    · have hsE : (strOf s).toList.isEmpty = false := by
        rw [show (strOf s).toList = s by simp [strOf, ByteArray.toList_eq]]; cases s <;> simp at hs0 ⊢
      go_enter Tryd.func67, Tryd.ntmps67
      go_wp2
      all_goals
        go_ret
        refine ⟨congrArg (fun b => Ending.returned (Value.bool b)) ?_, Step.alloc _⟩
        rw [Bool.eq_iff_iff]
        simp only [bareB, Val.num, Val.s, Val.b, Val.f, Val.l, Bool.and_eq_true, Bool.or_eq_true, decide_eq_true_eq, List.isEmpty_iff, beq_iff_eq, Bool.false_eq_true, false_iff, true_iff, ← List.length_eq_zero_iff]
        try simp only [hsE] at *
        try simp only [beq_iff_eq, Bool.true_eq_false, Bool.false_eq_true] at *
        try simp only [true_or, or_true, true_and, and_true]
        try simp only [← List.length_eq_zero_iff] at *
        try simp only [false_or, true_or, true_and, and_true, decide_eq_true_eq]
        omega
set_option maxRecDepth 100000 in
set_option maxHeartbeats 2000000 in
theorem ref_bare_b {P : Nat → Prop} {x : Val} {cs : List Value} {w : World} (h : VIs P w x cs) : Calls Tryd.prog 67 #[.agg cs.toArray, .bool false, .bool false, .bool true, .bool false, .bool false] w (BoolP (bareB x false false true false false) w) := by
  obtain ⟨bv, fa, fc, la, lc, rfl, h2, h3, h4, h5, h6, h7⟩ := h.cells
  obtain ⟨ba, bc, rfl⟩ := h2.shape
  cases x with
  | mk k n s b f l =>
    simp only [Val.kind, Val.num, Val.s, Val.b, Val.f, Val.l] at *
    obtain ⟨h4a, h4b, h4c, h4d⟩ := h4
    obtain ⟨h5a, h5b, h5c, h5d⟩ := h5
    clear h h2 h3 h6 h7
    rcases Nat.eq_zero_or_pos s.length with hs0 | hs0
    · have hsE : (strOf s).toList.isEmpty = true := by
        rw [show (strOf s).toList = s by simp [strOf, ByteArray.toList_eq]]; simpa using List.length_eq_zero_iff.1 hs0
      go_enter Tryd.func67, Tryd.ntmps67
      go_wp2
      all_goals
        go_ret
        refine ⟨congrArg (fun b => Ending.returned (Value.bool b)) ?_, Step.alloc _⟩
        rw [Bool.eq_iff_iff]
        simp only [bareB, Val.num, Val.s, Val.b, Val.f, Val.l, Bool.and_eq_true, Bool.or_eq_true, decide_eq_true_eq, List.isEmpty_iff, beq_iff_eq, Bool.false_eq_true, false_iff, true_iff, ← List.length_eq_zero_iff]
        try simp only [hsE] at *
        try simp only [beq_iff_eq, Bool.true_eq_false, Bool.false_eq_true] at *
        try simp only [true_or, or_true, true_and, and_true]
        try simp only [← List.length_eq_zero_iff] at *
        try simp only [false_or, true_or, true_and, and_true, decide_eq_true_eq]
        omega
    · have hsE : (strOf s).toList.isEmpty = false := by
        rw [show (strOf s).toList = s by simp [strOf, ByteArray.toList_eq]]; cases s <;> simp at hs0 ⊢
      go_enter Tryd.func67, Tryd.ntmps67
      go_wp2
      all_goals
        go_ret
        refine ⟨congrArg (fun b => Ending.returned (Value.bool b)) ?_, Step.alloc _⟩
        rw [Bool.eq_iff_iff]
        simp only [bareB, Val.num, Val.s, Val.b, Val.f, Val.l, Bool.and_eq_true, Bool.or_eq_true, decide_eq_true_eq, List.isEmpty_iff, beq_iff_eq, Bool.false_eq_true, false_iff, true_iff, ← List.length_eq_zero_iff]
        try simp only [hsE] at *
        try simp only [beq_iff_eq, Bool.true_eq_false, Bool.false_eq_true] at *
        try simp only [true_or, or_true, true_and, and_true]
        try simp only [← List.length_eq_zero_iff] at *
        try simp only [false_or, true_or, true_and, and_true, decide_eq_true_eq]
        omega
set_option maxRecDepth 100000 in
set_option maxHeartbeats 2000000 in
theorem ref_bare_f {P : Nat → Prop} {x : Val} {cs : List Value} {w : World} (h : VIs P w x cs) : Calls Tryd.prog 67 #[.agg cs.toArray, .bool false, .bool false, .bool false, .bool true, .bool false] w (BoolP (bareB x false false false true false) w) := by
  obtain ⟨bv, fa, fc, la, lc, rfl, h2, h3, h4, h5, h6, h7⟩ := h.cells
  obtain ⟨ba, bc, rfl⟩ := h2.shape
  cases x with
  | mk k n s b f l =>
    simp only [Val.kind, Val.num, Val.s, Val.b, Val.f, Val.l] at *
    obtain ⟨h4a, h4b, h4c, h4d⟩ := h4
    obtain ⟨h5a, h5b, h5c, h5d⟩ := h5
    clear h h2 h3 h6 h7
    rcases Nat.eq_zero_or_pos s.length with hs0 | hs0
    · have hsE : (strOf s).toList.isEmpty = true := by
        rw [show (strOf s).toList = s by simp [strOf, ByteArray.toList_eq]]; simpa using List.length_eq_zero_iff.1 hs0
      go_enter Tryd.func67, Tryd.ntmps67
      go_wp2
      all_goals
        go_ret
        refine ⟨congrArg (fun b => Ending.returned (Value.bool b)) ?_, Step.alloc _⟩
        rw [Bool.eq_iff_iff]
        simp only [bareB, Val.num, Val.s, Val.b, Val.f, Val.l, Bool.and_eq_true, Bool.or_eq_true, decide_eq_true_eq, List.isEmpty_iff, beq_iff_eq, Bool.false_eq_true, false_iff, true_iff, ← List.length_eq_zero_iff]
        try simp only [hsE] at *
        try simp only [beq_iff_eq, Bool.true_eq_false, Bool.false_eq_true] at *
        try simp only [true_or, or_true, true_and, and_true]
        try simp only [← List.length_eq_zero_iff] at *
        try simp only [false_or, true_or, true_and, and_true, decide_eq_true_eq]
        omega
    · have hsE : (strOf s).toList.isEmpty = false := by
        rw [show (strOf s).toList = s by simp [strOf, ByteArray.toList_eq]]; cases s <;> simp at hs0 ⊢
      go_enter Tryd.func67, Tryd.ntmps67
      go_wp2
      all_goals
        go_ret
        refine ⟨congrArg (fun b => Ending.returned (Value.bool b)) ?_, Step.alloc _⟩
        rw [Bool.eq_iff_iff]
        simp only [bareB, Val.num, Val.s, Val.b, Val.f, Val.l, Bool.and_eq_true, Bool.or_eq_true, decide_eq_true_eq, List.isEmpty_iff, beq_iff_eq, Bool.false_eq_true, false_iff, true_iff, ← List.length_eq_zero_iff]
        try simp only [hsE] at *
        try simp only [beq_iff_eq, Bool.true_eq_false, Bool.false_eq_true] at *
        try simp only [true_or, or_true, true_and, and_true]
        try simp only [← List.length_eq_zero_iff] at *
        try simp only [false_or, true_or, true_and, and_true, decide_eq_true_eq]
        omega
set_option maxRecDepth 100000 in
set_option maxHeartbeats 2000000 in
theorem ref_bare_l {P : Nat → Prop} {x : Val} {cs : List Value} {w : World} (h : VIs P w x cs) : Calls Tryd.prog 67 #[.agg cs.toArray, .bool false, .bool false, .bool false, .bool false, .bool true] w (BoolP (bareB x false false false false true) w) := by
  obtain ⟨bv, fa, fc, la, lc, rfl, h2, h3, h4, h5, h6, h7⟩ := h.cells
  obtain ⟨ba, bc, rfl⟩ := h2.shape
  cases x with
  | mk k n s b f l =>
    simp only [Val.kind, Val.num, Val.s, Val.b, Val.f, Val.l] at *
    obtain ⟨h4a, h4b, h4c, h4d⟩ := h4
    obtain ⟨h5a, h5b, h5c, h5d⟩ := h5
    clear h h2 h3 h6 h7
    rcases Nat.eq_zero_or_pos s.length with hs0 | hs0
    · have hsE : (strOf s).toList.isEmpty = true := by
        rw [show (strOf s).toList = s by simp [strOf, ByteArray.toList_eq]]; simpa using List.length_eq_zero_iff.1 hs0
      go_enter Tryd.func67, Tryd.ntmps67
      go_wp2
      all_goals
        go_ret
        refine ⟨congrArg (fun b => Ending.returned (Value.bool b)) ?_, Step.alloc _⟩
        rw [Bool.eq_iff_iff]
        simp only [bareB, Val.num, Val.s, Val.b, Val.f, Val.l, Bool.and_eq_true, Bool.or_eq_true, decide_eq_true_eq, List.isEmpty_iff, beq_iff_eq, Bool.false_eq_true, false_iff, true_iff, ← List.length_eq_zero_iff]
        try simp only [hsE] at *
        try simp only [beq_iff_eq, Bool.true_eq_false, Bool.false_eq_true] at *
        try simp only [true_or, or_true, true_and, and_true]
        try simp only [← List.length_eq_zero_iff] at *
        try simp only [false_or, true_or, true_and, and_true, decide_eq_true_eq]
        omega
    · have hsE : (strOf s).toList.isEmpty = false := by
        rw [show (strOf s).toList = s by simp [strOf, ByteArray.toList_eq]]; cases s <;> simp at hs0 ⊢
      go_enter Tryd.func67, Tryd.ntmps67
      go_wp2
      all_goals
        go_ret
        refine ⟨congrArg (fun b => Ending.returned (Value.bool b)) ?_, Step.alloc _⟩
        rw [Bool.eq_iff_iff]
        simp only [bareB, Val.num, Val.s, Val.b, Val.f, Val.l, Bool.and_eq_true, Bool.or_eq_true, decide_eq_true_eq, List.isEmpty_iff, beq_iff_eq, Bool.false_eq_true, false_iff, true_iff, ← List.length_eq_zero_iff]
        try simp only [hsE] at *
        try simp only [beq_iff_eq, Bool.true_eq_false, Bool.false_eq_true] at *
        try simp only [true_or, or_true, true_and, and_true]
        try simp only [← List.length_eq_zero_iff] at *
        try simp only [false_or, true_or, true_and, and_true, decide_eq_true_eq]
        omega

set_option maxRecDepth 100000 in
set_option maxHeartbeats 2000000 in
theorem ref_namemay (l : Bs) (w : World) (hl : l.length ≤ 140737488351232) : Calls Tryd.prog 96 #[.string (strOf l)] w fun e w' => e = .returned (.bool (nameOk l)) ∧ w = w' := by
  have hu := ref_utf8 l w hl
  obtain ⟨S, hS⟩ : ∃ S, S = strOf l := ⟨_, rfl⟩
  have hsz : S.size = l.length := by rw [hS, strOf_size]
  have hget : ∀ k (h : k < S.size) (h2 : k < l.length), S[k].toNat = l[k].toNat := fun k h h2 => by
    subst hS
    rfl
  rw [← hS] at hu ⊢
  obtain ⟨L, hL⟩ : ∃ L, L = l.length := ⟨_, rfl⟩
  rw [← hL] at hsz hl
  have hszi : S.size ≤ 140737488351232 := by omega
  have huH := Lib.hid hu
  have hszH := Lib.hid hsz
  have hLH := Lib.hid hL
  have hgetH := Lib.hid hget
  clear hS hsz hL hget hu
  go_enter Tryd.func96, Tryd.ntmps96
  go_wp2_with fail
  go_loop [3] (fun i => ∃ j : Nat, i = .int .i64 j ∧ j ≤ L ∧ (0 : UInt8) ∉ l.take j) (fun i => L - (intOf i).toNat)
  case atStart => exact ⟨0, rfl, Nat.zero_le _, by simp⟩
  case round =>
    obtain ⟨j, rfl, hj, he⟩ := hrel
    have heH := Lib.hid he
    clear he
    have hsz := hszH.out
    by_cases hjl : j < L
    · have hjs : j < S.size := by omega
      have hjs1 : (j : Int) < (S.size : Int) := by omega
      have hj0 : (0 : Int) ≤ (j : Int) := by omega
      have hjll : j < l.length := by rw [← hLH.out]; exact hjl
      obtain ⟨c, hc⟩ : ∃ c, c = l[j].toNat := ⟨_, rfl⟩
      have hcs : S[j].toNat = c := by rw [hc]; exact hgetH.out j hjs hjll
      have hwrap1 : IntKind.i64.wrap ((j : Int) + 1) = (j : Int) + 1 := IntWalk.i64_in _ (by omega)
      have htk : l.take (j + 1) = l.take j ++ [l[j]] := List.take_succ_eq_append_getElem hjll
      have hcH := Lib.hid hc
      have htkH := Lib.hid htk
      clear hc hsz htk
      by_cases h0 : c = 0
      · have h0i : ((c : Int) == 0) = true := by rw [beq_iff_eq]; omega
        have hf : nameOk l = false := by
          have hm : (0 : UInt8) ∈ l := by
            have : l[j] = 0 := UInt8.toNat_inj.1 (by rw [← hcH.out, h0]; rfl)
            rw [← this]; exact List.getElem_mem hjll
          unfold nameOk; simp [hm]
        have hfH := Lib.hid hf
        have h0H := Lib.hid h0
        clear hf h0
        go_wp2_with fail
        go_ret
        exact ⟨by rw [hfH.out]; rfl, rfl⟩
      · have h0i : ((c : Int) == 0) = false := by rw [beq_eq_false_iff_ne]; omega
        go_wp2_with fail
        refine ⟨⟨j + 1, by go_num, by omega, ?_⟩, by simp [intOf]; omega⟩
        rw [htkH.out, List.mem_append, List.mem_singleton, not_or]
        exact ⟨heH.out, fun e => h0 (by rw [hcH.out, ← e]; rfl)⟩
    · have hjl1 : ¬ j < S.size := by omega
      have h0l : (0 : UInt8) ∉ l := by
        have := heH.out
        rwa [List.take_of_length_le (by rw [← hLH.out]; omega)] at this
      have h0H := Lib.hid h0l
      clear h0l
      by_cases h120 : L ≤ 120
      · have hl1 : S.size ≤ 120 := by omega
        have hl2 : (S.size : Int) ≤ 120 := by omega
        clear hsz
        go_wp2_with (go_at_call 57; refine huH.out.mono ?_; rintro e w' ⟨rfl, rfl⟩)
        go_ret
        refine ⟨?_, rfl⟩
        have e : nameOk l = utf8 l := by unfold nameOk; rw [← hLH.out]; simp [h120, h0H.out]
        rw [e]; rfl
      · have hl1 : ¬ S.size ≤ 120 := by omega
        have hl2 : ¬ (S.size : Int) ≤ 120 := by omega
        have hf : nameOk l = false := by unfold nameOk; rw [← hLH.out]; simp [h120]
        have hfH := Lib.hid hf
        clear hf hsz
        go_wp2_with fail
        go_ret
        exact ⟨by rw [hfH.out]; rfl, rfl⟩
end Go.Proofs.YtbkmnhogfegmcaaDoor

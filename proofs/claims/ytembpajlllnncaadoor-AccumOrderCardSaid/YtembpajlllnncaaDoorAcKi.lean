/- Accumulators: Kind. -/
import Derived.Test.YtembpajlllnncaaDoorAcY
import Derived.Test.YtembpajlllnncaaDoorAcK1
set_option linter.unusedVariables false
set_option linter.unusedSimpArgs false
namespace Go.Proofs.YtembpajlllnncaaDoor
open Go.RowKit

/-- An accumulator's kind by its name. -/
def kindOf (s : Bs) : Int :=
  if s = [36, 115, 117, 109] then 1 else if s = [36, 109, 105, 110] then 2 else if s = [36, 109, 97, 120] then 3 else if s = [36, 102, 105, 114, 115, 116] then 4 else if s = [36, 108, 97, 115, 116] then 5 else if s = [36, 112, 117, 115, 104] then 6 else if s = [36, 97, 100, 100, 84, 111, 83, 101, 116] then 7 else if s = [36, 99, 111, 117, 110, 116] then 8 else 0
theorem list_dec (a b : Bs) : ((strOf a).toList == b) = decide (a = b) := by
  rw [strOf_toList, Bool.eq_iff_iff, beq_iff_eq, decide_eq_true_eq]
set_option maxRecDepth 100000 in
set_option maxHeartbeats 4000000 in
theorem acc_kind (s : Bs) (w : World) : Calls Tryd.prog 14 #[.string (strOf s)] w fun e w' => e = .returned (.int .i64 (kindOf s)) ∧ w = w' := by
  have g1 := list_dec s [36, 115, 117, 109]
  have g2 := list_dec s [36, 109, 105, 110]
  have g3 := list_dec s [36, 109, 97, 120]
  have g4 := list_dec s [36, 102, 105, 114, 115, 116]
  have g5 := list_dec s [36, 108, 97, 115, 116]
  have g6 := list_dec s [36, 112, 117, 115, 104]
  have g7 := list_dec s [36, 97, 100, 100, 84, 111, 83, 101, 116]
  have g8 := list_dec s [36, 99, 111, 117, 110, 116]
  obtain ⟨T, hT⟩ : ∃ T, T = strOf s := ⟨_, rfl⟩
  rw [← hT] at g1 g2 g3 g4 g5 g6 g7 g8 ⊢
  clear hT
  by_cases h1 : s = [36, 115, 117, 109]
  · have hk : kindOf s = 1 := by rw [h1]; decide
    rw [hk]
    have f1 := g1.trans (decide_eq_true h1)
    clear hk g1 g2 g3 g4 g5 g6 g7 g8 h1
    go_enter Tryd.func14, Tryd.ntmps14
    go_wp2_with fail
    go_ret
    exact ⟨rfl, rfl⟩
  by_cases h2 : s = [36, 109, 105, 110]
  · have hk : kindOf s = 2 := by rw [h2]; decide
    rw [hk]
    have f1 := g1.trans (decide_eq_false h1)
    have f2 := g2.trans (decide_eq_true h2)
    clear hk g1 g2 g3 g4 g5 g6 g7 g8 h1 h2
    go_enter Tryd.func14, Tryd.ntmps14
    go_wp2_with fail
    go_ret
    exact ⟨rfl, rfl⟩
  by_cases h3 : s = [36, 109, 97, 120]
  · have hk : kindOf s = 3 := by rw [h3]; decide
    rw [hk]
    have f1 := g1.trans (decide_eq_false h1)
    have f2 := g2.trans (decide_eq_false h2)
    have f3 := g3.trans (decide_eq_true h3)
    clear hk g1 g2 g3 g4 g5 g6 g7 g8 h1 h2 h3
    go_enter Tryd.func14, Tryd.ntmps14
    go_wp2_with fail
    go_ret
    exact ⟨rfl, rfl⟩
  by_cases h4 : s = [36, 102, 105, 114, 115, 116]
  · have hk : kindOf s = 4 := by rw [h4]; decide
    rw [hk]
    have f1 := g1.trans (decide_eq_false h1)
    have f2 := g2.trans (decide_eq_false h2)
    have f3 := g3.trans (decide_eq_false h3)
    have f4 := g4.trans (decide_eq_true h4)
    clear hk g1 g2 g3 g4 g5 g6 g7 g8 h1 h2 h3 h4
    go_enter Tryd.func14, Tryd.ntmps14
    go_wp2_with fail
    go_ret
    exact ⟨rfl, rfl⟩
  by_cases h5 : s = [36, 108, 97, 115, 116]
  · have hk : kindOf s = 5 := by rw [h5]; decide
    rw [hk]
    have f1 := g1.trans (decide_eq_false h1)
    have f2 := g2.trans (decide_eq_false h2)
    have f3 := g3.trans (decide_eq_false h3)
    have f4 := g4.trans (decide_eq_false h4)
    have f5 := g5.trans (decide_eq_true h5)
    clear hk g1 g2 g3 g4 g5 g6 g7 g8 h1 h2 h3 h4 h5
    go_enter Tryd.func14, Tryd.ntmps14
    go_wp2_with fail
    go_ret
    exact ⟨rfl, rfl⟩
  by_cases h6 : s = [36, 112, 117, 115, 104]
  · have hk : kindOf s = 6 := by rw [h6]; decide
    rw [hk]
    have f1 := g1.trans (decide_eq_false h1)
    have f2 := g2.trans (decide_eq_false h2)
    have f3 := g3.trans (decide_eq_false h3)
    have f4 := g4.trans (decide_eq_false h4)
    have f5 := g5.trans (decide_eq_false h5)
    have f6 := g6.trans (decide_eq_true h6)
    clear hk g1 g2 g3 g4 g5 g6 g7 g8 h1 h2 h3 h4 h5 h6
    go_enter Tryd.func14, Tryd.ntmps14
    go_wp2_with fail
    go_ret
    exact ⟨rfl, rfl⟩
  by_cases h7 : s = [36, 97, 100, 100, 84, 111, 83, 101, 116]
  · have hk : kindOf s = 7 := by rw [h7]; decide
    rw [hk]
    have f1 := g1.trans (decide_eq_false h1)
    have f2 := g2.trans (decide_eq_false h2)
    have f3 := g3.trans (decide_eq_false h3)
    have f4 := g4.trans (decide_eq_false h4)
    have f5 := g5.trans (decide_eq_false h5)
    have f6 := g6.trans (decide_eq_false h6)
    have f7 := g7.trans (decide_eq_true h7)
    clear hk g1 g2 g3 g4 g5 g6 g7 g8 h1 h2 h3 h4 h5 h6 h7
    go_enter Tryd.func14, Tryd.ntmps14
    go_wp2_with fail
    go_ret
    exact ⟨rfl, rfl⟩
  by_cases h8 : s = [36, 99, 111, 117, 110, 116]
  · have hk : kindOf s = 8 := by rw [h8]; decide
    rw [hk]
    have f1 := g1.trans (decide_eq_false h1)
    have f2 := g2.trans (decide_eq_false h2)
    have f3 := g3.trans (decide_eq_false h3)
    have f4 := g4.trans (decide_eq_false h4)
    have f5 := g5.trans (decide_eq_false h5)
    have f6 := g6.trans (decide_eq_false h6)
    have f7 := g7.trans (decide_eq_false h7)
    have f8 := g8.trans (decide_eq_true h8)
    clear hk g1 g2 g3 g4 g5 g6 g7 g8 h1 h2 h3 h4 h5 h6 h7 h8
    go_enter Tryd.func14, Tryd.ntmps14
    go_wp2_with fail
    go_ret
    exact ⟨rfl, rfl⟩
  have hk : kindOf s = 0 := by unfold kindOf; rw [if_neg h1, if_neg h2, if_neg h3, if_neg h4, if_neg h5, if_neg h6, if_neg h7, if_neg h8]
  rw [hk]
  have f1 := g1.trans (decide_eq_false h1)
  have f2 := g2.trans (decide_eq_false h2)
  have f3 := g3.trans (decide_eq_false h3)
  have f4 := g4.trans (decide_eq_false h4)
  have f5 := g5.trans (decide_eq_false h5)
  have f6 := g6.trans (decide_eq_false h6)
  have f7 := g7.trans (decide_eq_false h7)
  have f8 := g8.trans (decide_eq_false h8)
  clear hk g1 g2 g3 g4 g5 g6 g7 g8 h1 h2 h3 h4 h5 h6 h7 h8
  go_enter Tryd.func14, Tryd.ntmps14
  go_wp2_with fail
  go_ret
  exact ⟨rfl, rfl⟩
end Go.Proofs.YtembpajlllnncaaDoor

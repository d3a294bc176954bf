/- The weigher counts. -/
import Derived.Test.YtembpajlllnncaaDoorBsE2
import Derived.Test.YtembpajlllnncaaDoorBsA2
import Derived.Test.YtembpajlllnncaaDoorAcX
set_option linter.unusedVariables false
set_option linter.unusedSimpArgs false
namespace Go.Proofs.YtembpajlllnncaaDoor
open Go.RowKit

/-- The weigher's one cell. -/
def Wgh (w : World) (R s : Nat) : Prop := w.heap[R]? = some (.cells #[.int .i64 s] 68 (0, 0))
set_option maxRecDepth 100000 in
set_option maxHeartbeats 2000000 in
theorem bs_add (w : World) (R s n : Nat) (h : Wgh w R s) (hs : s ≤ 65536) (hn : n ≤ 9223372036854775807) :
    Calls Tryd.prog 60 #[.pointer (some ⟨R, 0, none⟩), .int .i64 n] w fun e w' => (s + n ≤ 65536 ∧ e = done0 ∧ Wgh w' R (s + n) ∧ Step [R] id id w w') ∨ (¬ s + n ≤ 65536 ∧ e = broke 1 ∧ w = w') := by
  have k0 := cell_blk h (i := 0) rfl
  have f0 := free_blk h 0
  have hH := Lib.hid h
  clear h
  by_cases hle : s + n ≤ 65536
  · have hle1 : (n : Int) ≤ 65536 - (s : Int) := by omega
    go_enter Tryd.func60, Tryd.ntmps60
    go_wp2_with (go_at_call 59; refine (must_ok 1 _).mono ?_; rintro e w' ⟨rfl, rfl⟩)
    go_end0
    refine .inl ⟨hle, rfl, ?_, Step.set _ _ (by simp)⟩
    have := set_blk hH.out 0 (.int .i64 ((s + n : Nat) : Int))
    simpa [Wgh] using this
  · have hle1 : ¬ (n : Int) ≤ 65536 - (s : Int) := by omega
    go_enter Tryd.func60, Tryd.ntmps60
    go_wp2_with (go_at_call 59; refine (must_bad 1 _).mono ?_; rintro e w' ⟨rfl, rfl⟩)
    exact ⟨rfl, .inr ⟨hle, rfl, rfl⟩⟩
end Go.Proofs.YtembpajlllnncaaDoor

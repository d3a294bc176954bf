/- Accumulators: least, greatest, none. -/
import Derived.Test.YtembpajlllnncaaGreatDoorAcB
set_option linter.unusedVariables false
set_option linter.unusedSimpArgs false
namespace Go.Proofs.YtembpajlllnncaaGreatDoor
open Go.RowKit

set_option maxRecDepth 100000 in
set_option maxHeartbeats 2000000 in
theorem acc_least {w : World} {p k n s b f l : Value} {R : World → Prop} (hb : Calls Tryz.prog 39 #[p, .agg #[k, n, s, b, f, l], .int .i64 (-1)] (w.alloc (.cells #[k, n, s, b, f, l] 35)) fun e w' => e = .returned (.tuple #[]) ∧ R w') :
  Calls Tryz.prog 23 #[p, .agg #[k, n, s, b, f, l]] w fun e w' => e = .returned (.int .i64 0) ∧ R w' := by
 have hbH := Lib.hid hb
 clear hb
 go_enter Tryz.func23, Tryz.ntmps23
 go_wp2_with fail
 refine hbH.out.mono ?_
 rintro e w2 ⟨rfl, hR⟩
 have hRH := Lib.hid hR
 clear hR
 go_wp2_with fail
 go_ret
 exact ⟨rfl, hRH.out⟩
set_option maxRecDepth 100000 in
set_option maxHeartbeats 2000000 in
theorem acc_greatest {w : World} {p k n s b f l : Value} {R : World → Prop} (hb : Calls Tryz.prog 39 #[p, .agg #[k, n, s, b, f, l], .int .i64 (1)] (w.alloc (.cells #[k, n, s, b, f, l] 35)) fun e w' => e = .returned (.tuple #[]) ∧ R w') :
  Calls Tryz.prog 24 #[p, .agg #[k, n, s, b, f, l]] w fun e w' => e = .returned (.int .i64 0) ∧ R w' := by
 have hbH := Lib.hid hb
 clear hb
 go_enter Tryz.func24, Tryz.ntmps24
 go_wp2_with fail
 refine hbH.out.mono ?_
 rintro e w2 ⟨rfl, hR⟩
 have hRH := Lib.hid hR
 clear hR
 go_wp2_with fail
 go_ret
 exact ⟨rfl, hRH.out⟩
set_option maxRecDepth 100000 in
theorem acc_none {w : World} {p : Value} {cs : Array Value} : Calls Tryz.prog 20 #[p, .agg cs] w fun e w' => e = .returned (.int .i64 0) ∧ Step [] id id w w' := by
 go_enter Tryz.func20, Tryz.ntmps20
 go_wp2_with fail
 go_ret
 exact ⟨rfl, Step.alloc _⟩
end Go.Proofs.YtembpajlllnncaaGreatDoor

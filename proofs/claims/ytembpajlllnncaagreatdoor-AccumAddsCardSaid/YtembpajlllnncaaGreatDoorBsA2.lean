/- bson: what a call that broke leaves. -/
import Derived.Test.YtembpajlllnncaaGreatDoorBsA
set_option linter.unusedVariables false
set_option linter.unusedSimpArgs false
namespace Go.Proofs.YtembpajlllnncaaGreatDoor
open Go.RowKit

/-- What a call that broke with an error leaves. -/
abbrev broke (e : Int) : Ending := .panicked [{ v := .iface 39 (.int .i64 e), recovered := false }]
abbrev done0 : Ending := .returned (.tuple #[])
theorem must_ok (e : Int) (w : World) : Calls Tryz.prog 72 #[.bool true, .int .i64 e] w fun x w' => x = done0 ∧ w = w' := (bs_must e w true).mono fun x w' h => by simpa using h
theorem must_bad (e : Int) (w : World) : Calls Tryz.prog 72 #[.bool false, .int .i64 e] w fun x w' => x = broke e ∧ w = w' := (bs_must e w false).mono fun x w' h => by simpa using h
end Go.Proofs.YtembpajlllnncaaGreatDoor

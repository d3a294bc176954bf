/-
  DERIVED. GIVEN WITH THE SEED: THE CARDS: each row of YtembpajlllnncaaGreatDoorRows.lean that lists a variable, with what it lists TIED to the program's text (the seventh form; the later family's looks); each row that meets fmt, with fmt's text TOLD by the authors' own Lean function (tested against real Go, not proved from fmt's source: count such statements apart). THE CARD IS WHAT COUNTS. Prove the row's statement (the work); the ties are given (YtembpajlllnncaaGreatDoorTie.lean); close each card by the builder's one call (the guide's Derived/Test/ToyasCard.lean, 'card_holds'). Laid BY PROGRAM, IN A SANDBOX (cutbox-door.mjs). By AI agents, Wed Nov 11 2026. No macro, syntax, notation, axiom, sorry.
-/
import Derived.Test.YtembpajlllnncaaGreatDoorRows
import GoSem.ClaimSeven
namespace Go.Proofs.YtembpajlllnncaaGreatDoor
namespace Rows

/-- THE TIED CARD OF 'aqueductlaw12.AccumAdds'. -/
def accumAddsCard : Claim7 := { stood := { row := accumAddsRow, standIns := [], harness := (true, "e3a84968ff0bce2327435b891d7fc21980daf9853b9c825f1a534c8c59947e23"), looks := true }, kinds := [], alts := [], laidByText := true, laidKinds := [.data, .data, .data, .data, .pinned], laidTests := true, laidLooks := .later }
def AccumAddsCardSaid : Prop := Claim7.holds Tryz.pinned (.plain (OpenSpec.ofChange accumAddsSpec)) accumAddsCard

/-- THE SECOND FORM's CARD OF 'aqueductlaw12.AccumAdds'. -/
def accumAddsUptoCard : Claim7 := { stood := { row := accumAddsUptoRow, standIns := [], harness := (true, "e3a84968ff0bce2327435b891d7fc21980daf9853b9c825f1a534c8c59947e23"), looks := true }, kinds := [], alts := [], laidByText := true, laidKinds := [.data, .data, .data, .data, .pinned], laidTests := true, laidLooks := .later }
def AccumAddsUptoCardSaid : Prop := Claim7.holds Tryz.pinned (.plain (OpenSpec.upto accumAddsSpec)) accumAddsUptoCard
end Rows
end Go.Proofs.YtembpajlllnncaaGreatDoor

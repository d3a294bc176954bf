/-
  DERIVED. GIVEN WITH THE SEED: THE CARDS: each row of YtembpajlllnncaaDoorRows.lean that lists a variable, with what it lists TIED to the program's text (the seventh form; the later family's looks); each row that meets fmt, with fmt's text TOLD by the authors' own Lean function (tested against real Go, not proved from fmt's source: count such statements apart). THE CARD IS WHAT COUNTS. Prove the row's statement (the work); the ties are given (YtembpajlllnncaaDoorTie.lean); close each card by the builder's one call (the guide's Derived/Test/ToyasCard.lean, 'card_holds'). Laid BY PROGRAM, IN A SANDBOX (cutbox-door.mjs). By AI agents, Wed Nov 11 2026. No macro, syntax, notation, axiom, sorry.
-/
import Derived.Test.YtembpajlllnncaaDoorRows
import GoSem.ClaimSeven
namespace Go.Proofs.YtembpajlllnncaaDoor
namespace Rows

/-- THE TIED CARD OF 'aqueductlaw12.AccumLong'. -/
def accumLongCard : Claim7 := { stood := { row := accumLongRow, standIns := [], harness := (true, "27b68a030d685aed98ce9a537c03a0184b443eb211d5ea0d5291b3a5ea9041ee"), looks := true }, kinds := [], alts := [], laidByText := true, laidKinds := [.data, .data, .data, .data, .pinned], laidTests := true, laidLooks := .later }
def AccumLongCardSaid : Prop := Claim7.holds Tryd.pinned (.plain (OpenSpec.ofChange accumLongSpec)) accumLongCard

/-- THE TIED CARD OF 'aqueductlaw12.AccumOrder'. -/
def accumOrderCard : Claim7 := { stood := { row := accumOrderRow, standIns := [], harness := (true, "27b68a030d685aed98ce9a537c03a0184b443eb211d5ea0d5291b3a5ea9041ee"), looks := true }, kinds := [], alts := [], laidByText := true, laidKinds := [.data, .data, .data, .data, .pinned], laidTests := true, laidLooks := .later }
def AccumOrderCardSaid : Prop := Claim7.holds Tryd.pinned (.plain (OpenSpec.ofChange accumOrderSpec)) accumOrderCard

/-- THE TIED CARD OF 'aqueductlaw12.AccumKnown'. -/
def accumKnownCard : Claim7 := { stood := { row := accumKnownRow, standIns := [], harness := (true, "27b68a030d685aed98ce9a537c03a0184b443eb211d5ea0d5291b3a5ea9041ee"), looks := true }, kinds := [], alts := [], laidByText := true, laidKinds := [.data, .data, .data, .data, .pinned], laidTests := true, laidLooks := .later }
def AccumKnownCardSaid : Prop := Claim7.holds Tryd.pinned (.plain (OpenSpec.ofChange accumKnownSpec)) accumKnownCard

/-- THE SECOND FORM's CARD OF 'aqueductlaw12.AccumLong'. -/
def accumLongUptoCard : Claim7 := { stood := { row := accumLongUptoRow, standIns := [], harness := (true, "27b68a030d685aed98ce9a537c03a0184b443eb211d5ea0d5291b3a5ea9041ee"), looks := true }, kinds := [], alts := [], laidByText := true, laidKinds := [.data, .data, .data, .data, .pinned], laidTests := true, laidLooks := .later }
def AccumLongUptoCardSaid : Prop := Claim7.holds Tryd.pinned (.plain (OpenSpec.upto accumLongSpec)) accumLongUptoCard

/-- THE SECOND FORM's CARD OF 'aqueductlaw12.AccumOrder'. -/
def accumOrderUptoCard : Claim7 := { stood := { row := accumOrderUptoRow, standIns := [], harness := (true, "27b68a030d685aed98ce9a537c03a0184b443eb211d5ea0d5291b3a5ea9041ee"), looks := true }, kinds := [], alts := [], laidByText := true, laidKinds := [.data, .data, .data, .data, .pinned], laidTests := true, laidLooks := .later }
def AccumOrderUptoCardSaid : Prop := Claim7.holds Tryd.pinned (.plain (OpenSpec.upto accumOrderSpec)) accumOrderUptoCard

/-- THE SECOND FORM's CARD OF 'aqueductlaw12.AccumKnown'. -/
def accumKnownUptoCard : Claim7 := { stood := { row := accumKnownUptoRow, standIns := [], harness := (true, "27b68a030d685aed98ce9a537c03a0184b443eb211d5ea0d5291b3a5ea9041ee"), looks := true }, kinds := [], alts := [], laidByText := true, laidKinds := [.data, .data, .data, .data, .pinned], laidTests := true, laidLooks := .later }
def AccumKnownUptoCardSaid : Prop := Claim7.holds Tryd.pinned (.plain (OpenSpec.upto accumKnownSpec)) accumKnownUptoCard
end Rows
end Go.Proofs.YtembpajlllnncaaDoor

/-
  DERIVED. GIVEN WITH THE SEED: THE CARDS: each row of YtbkmnhogfegmcaaDoorRows.lean that lists a variable, with what it lists TIED to the program's text (the seventh form; the later family's looks); each row that meets fmt, with fmt's text TOLD by the authors' own Lean function (tested against real Go, not proved from fmt's source: count such statements apart). THE CARD IS WHAT COUNTS. Prove the row's statement (the work); the ties are given (YtbkmnhogfegmcaaDoorTie.lean); close each card by the builder's one call (the guide's Derived/Test/ToyasCard.lean, 'card_holds'). Laid BY PROGRAM, IN A SANDBOX (cutbox-door.mjs). By AI agents, Wed Nov 11 2026. No macro, syntax, notation, axiom, sorry.
-/
import Derived.Test.YtbkmnhogfegmcaaDoorRows
import GoSem.ClaimSeven
namespace Go.Proofs.YtbkmnhogfegmcaaDoor
namespace Rows

/-- THE TIED CARD OF 'aqueductlaw5.BsonDecodes'. -/
def bsonDecodesCard : Claim7 := { stood := { row := bsonDecodesRow, standIns := [], harness := (true, "49650cd991ba4c23e6d01a54c15a86d227c3f32177486e89e16493a239dd6460"), looks := true }, kinds := [], alts := [], laidByText := true, laidKinds := [.data, .data, .data, .data, .pinned], laidTests := true, laidLooks := .later }
def BsonDecodesCardSaid : Prop := Claim7.holds Tryd.pinned (.plain (OpenSpec.ofChange bsonDecodesSpec)) bsonDecodesCard

/-- THE TIED CARD OF 'aqueductlaw5.BsonEncodes'. -/
def bsonEncodesCard : Claim7 := { stood := { row := bsonEncodesRow, standIns := [], harness := (true, "49650cd991ba4c23e6d01a54c15a86d227c3f32177486e89e16493a239dd6460"), looks := true }, kinds := [], alts := [], laidByText := true, laidKinds := [.data, .data, .data, .data, .pinned], laidTests := true, laidLooks := .later }
def BsonEncodesCardSaid : Prop := Claim7.holds Tryd.pinned (.plain (OpenSpec.ofChange bsonEncodesSpec)) bsonEncodesCard

/-- THE TIED CARD OF 'aqueductlaw5.BsonCuts'. -/
def bsonCutsCard : Claim7 := { stood := { row := bsonCutsRow, standIns := [], harness := (true, "49650cd991ba4c23e6d01a54c15a86d227c3f32177486e89e16493a239dd6460"), looks := true }, kinds := [], alts := [], laidByText := true, laidKinds := [.data, .data, .data, .data, .pinned], laidTests := true, laidLooks := .later }
def BsonCutsCardSaid : Prop := Claim7.holds Tryd.pinned (.plain (OpenSpec.ofChange bsonCutsSpec)) bsonCutsCard

/-- THE TIED CARD OF 'aqueductlaw5.BsonKnown'. -/
def bsonKnownCard : Claim7 := { stood := { row := bsonKnownRow, standIns := [], harness := (true, "49650cd991ba4c23e6d01a54c15a86d227c3f32177486e89e16493a239dd6460"), looks := true }, kinds := [], alts := [], laidByText := true, laidKinds := [.data, .data, .data, .data, .pinned], laidTests := true, laidLooks := .later }
def BsonKnownCardSaid : Prop := Claim7.holds Tryd.pinned (.plain (OpenSpec.ofChange bsonKnownSpec)) bsonKnownCard

/-- THE TIED CARD OF 'aqueductlaw5.BsonDeep'. -/
def bsonDeepCard : Claim7 := { stood := { row := bsonDeepRow, standIns := [], harness := (true, "49650cd991ba4c23e6d01a54c15a86d227c3f32177486e89e16493a239dd6460"), looks := true }, kinds := [], alts := [], laidByText := true, laidKinds := [.data, .data, .data, .data, .pinned], laidTests := true, laidLooks := .later }
def BsonDeepCardSaid : Prop := Claim7.holds Tryd.pinned (.plain (OpenSpec.ofChange bsonDeepSpec)) bsonDeepCard

/-- THE TIED CARD OF 'aqueductlaw5.BsonSame'. -/
def bsonSameCard : Claim7 := { stood := { row := bsonSameRow, standIns := [], harness := (true, "49650cd991ba4c23e6d01a54c15a86d227c3f32177486e89e16493a239dd6460"), looks := true }, kinds := [], alts := [], laidByText := true, laidKinds := [.data, .data, .data, .data, .pinned], laidTests := true, laidLooks := .later }
def BsonSameCardSaid : Prop := Claim7.holds Tryd.pinned (.plain (OpenSpec.ofChange bsonSameSpec)) bsonSameCard

/-- THE TIED CARD OF 'aqueductlaw5.BsonOrder'. -/
def bsonOrderCard : Claim7 := { stood := { row := bsonOrderRow, standIns := [], harness := (true, "49650cd991ba4c23e6d01a54c15a86d227c3f32177486e89e16493a239dd6460"), looks := true }, kinds := [], alts := [], laidByText := true, laidKinds := [.data, .data, .data, .data, .pinned], laidTests := true, laidLooks := .later }
def BsonOrderCardSaid : Prop := Claim7.holds Tryd.pinned (.plain (OpenSpec.ofChange bsonOrderSpec)) bsonOrderCard

/-- THE SECOND FORM's CARD OF 'aqueductlaw5.BsonDecodes'. -/
def bsonDecodesUptoCard : Claim7 := { stood := { row := bsonDecodesUptoRow, standIns := [], harness := (true, "49650cd991ba4c23e6d01a54c15a86d227c3f32177486e89e16493a239dd6460"), looks := true }, kinds := [], alts := [], laidByText := true, laidKinds := [.data, .data, .data, .data, .pinned], laidTests := true, laidLooks := .later }
def BsonDecodesUptoCardSaid : Prop := Claim7.holds Tryd.pinned (.plain (OpenSpec.upto bsonDecodesSpec)) bsonDecodesUptoCard

/-- THE SECOND FORM's CARD OF 'aqueductlaw5.BsonEncodes'. -/
def bsonEncodesUptoCard : Claim7 := { stood := { row := bsonEncodesUptoRow, standIns := [], harness := (true, "49650cd991ba4c23e6d01a54c15a86d227c3f32177486e89e16493a239dd6460"), looks := true }, kinds := [], alts := [], laidByText := true, laidKinds := [.data, .data, .data, .data, .pinned], laidTests := true, laidLooks := .later }
def BsonEncodesUptoCardSaid : Prop := Claim7.holds Tryd.pinned (.plain (OpenSpec.upto bsonEncodesSpec)) bsonEncodesUptoCard

/-- THE SECOND FORM's CARD OF 'aqueductlaw5.BsonCuts'. -/
def bsonCutsUptoCard : Claim7 := { stood := { row := bsonCutsUptoRow, standIns := [], harness := (true, "49650cd991ba4c23e6d01a54c15a86d227c3f32177486e89e16493a239dd6460"), looks := true }, kinds := [], alts := [], laidByText := true, laidKinds := [.data, .data, .data, .data, .pinned], laidTests := true, laidLooks := .later }
def BsonCutsUptoCardSaid : Prop := Claim7.holds Tryd.pinned (.plain (OpenSpec.upto bsonCutsSpec)) bsonCutsUptoCard

/-- THE SECOND FORM's CARD OF 'aqueductlaw5.BsonKnown'. -/
def bsonKnownUptoCard : Claim7 := { stood := { row := bsonKnownUptoRow, standIns := [], harness := (true, "49650cd991ba4c23e6d01a54c15a86d227c3f32177486e89e16493a239dd6460"), looks := true }, kinds := [], alts := [], laidByText := true, laidKinds := [.data, .data, .data, .data, .pinned], laidTests := true, laidLooks := .later }
def BsonKnownUptoCardSaid : Prop := Claim7.holds Tryd.pinned (.plain (OpenSpec.upto bsonKnownSpec)) bsonKnownUptoCard

/-- THE SECOND FORM's CARD OF 'aqueductlaw5.BsonDeep'. -/
def bsonDeepUptoCard : Claim7 := { stood := { row := bsonDeepUptoRow, standIns := [], harness := (true, "49650cd991ba4c23e6d01a54c15a86d227c3f32177486e89e16493a239dd6460"), looks := true }, kinds := [], alts := [], laidByText := true, laidKinds := [.data, .data, .data, .data, .pinned], laidTests := true, laidLooks := .later }
def BsonDeepUptoCardSaid : Prop := Claim7.holds Tryd.pinned (.plain (OpenSpec.upto bsonDeepSpec)) bsonDeepUptoCard

/-- THE SECOND FORM's CARD OF 'aqueductlaw5.BsonSame'. -/
def bsonSameUptoCard : Claim7 := { stood := { row := bsonSameUptoRow, standIns := [], harness := (true, "49650cd991ba4c23e6d01a54c15a86d227c3f32177486e89e16493a239dd6460"), looks := true }, kinds := [], alts := [], laidByText := true, laidKinds := [.data, .data, .data, .data, .pinned], laidTests := true, laidLooks := .later }
def BsonSameUptoCardSaid : Prop := Claim7.holds Tryd.pinned (.plain (OpenSpec.upto bsonSameSpec)) bsonSameUptoCard

/-- THE SECOND FORM's CARD OF 'aqueductlaw5.BsonOrder'. -/
def bsonOrderUptoCard : Claim7 := { stood := { row := bsonOrderUptoRow, standIns := [], harness := (true, "49650cd991ba4c23e6d01a54c15a86d227c3f32177486e89e16493a239dd6460"), looks := true }, kinds := [], alts := [], laidByText := true, laidKinds := [.data, .data, .data, .data, .pinned], laidTests := true, laidLooks := .later }
def BsonOrderUptoCardSaid : Prop := Claim7.holds Tryd.pinned (.plain (OpenSpec.upto bsonOrderSpec)) bsonOrderUptoCard
end Rows
end Go.Proofs.YtbkmnhogfegmcaaDoor

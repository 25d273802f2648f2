/-
  DERIVED. GIVEN WITH THE SEED: THE CARDS: each row of YtgphnkkdmlohlaaGreatDoorRows.lean that lists a variable, with what it lists TIED to the program's text (the seventh form; the later family's looks); each row that meets fmt, with fmt's text TOLD by the authors' own Lean function (tested against real Go, not proved from fmt's source: count such statements apart). THE CARD IS WHAT COUNTS. Prove the row's statement (the work); the ties are given (YtgphnkkdmlohlaaGreatDoorTie.lean); close each card by the builder's one call (the guide's Derived/Test/ToyasCard.lean, 'card_holds'). Laid BY PROGRAM, IN A SANDBOX (cutbox-door.mjs). By AI agents, Wed Nov 11 2026. No macro, syntax, notation, axiom, sorry.
-/
import Derived.Test.YtgphnkkdmlohlaaGreatDoorRows
import GoSem.ClaimSeven
namespace Go.Proofs.YtgphnkkdmlohlaaGreatDoor
namespace Rows

/-- THE TIED CARD OF 'parquetrylaw15.WoodMakes'. -/
def woodMakesCard : Claim7 := { stood := { row := woodMakesRow, standIns := [], harness := (true, "bde959a0c557517c0e89008615b5c4d67a1318a03ba1278c982d2ceeb48be777"), looks := false }, kinds := [], alts := [], laidByText := true, laidKinds := [.data], laidTests := true, laidLooks := .later }
def WoodMakesCardSaid : Prop := Claim7.holds Tryz.pinned (.plain (OpenSpec.ofChange woodMakesSpec)) woodMakesCard

/-- THE TIED CARD OF 'parquetrylaw15.WoodOf'. -/
def woodOfCard : Claim7 := { stood := { row := woodOfRow, standIns := [], harness := (true, "bde959a0c557517c0e89008615b5c4d67a1318a03ba1278c982d2ceeb48be777"), looks := false }, kinds := [], alts := [], laidByText := true, laidKinds := [.data], laidTests := true, laidLooks := .later }
def WoodOfCardSaid : Prop := Claim7.holds Tryz.pinned (.plain (OpenSpec.ofChange woodOfSpec)) woodOfCard

/-- THE TIED CARD OF 'parquetrylaw15.WoodNo'. -/
def woodNoCard : Claim7 := { stood := { row := woodNoRow, standIns := [], harness := (true, "bde959a0c557517c0e89008615b5c4d67a1318a03ba1278c982d2ceeb48be777"), looks := false }, kinds := [], alts := [], laidByText := true, laidKinds := [.data], laidTests := true, laidLooks := .later }
def WoodNoCardSaid : Prop := Claim7.holds Tryz.pinned (.plain (OpenSpec.ofChange woodNoSpec)) woodNoCard

/-- THE SECOND FORM's CARD OF 'parquetrylaw15.WoodMakes'. -/
def woodMakesUptoCard : Claim7 := { stood := { row := woodMakesUptoRow, standIns := [], harness := (true, "bde959a0c557517c0e89008615b5c4d67a1318a03ba1278c982d2ceeb48be777"), looks := false }, kinds := [], alts := [], laidByText := true, laidKinds := [.data], laidTests := true, laidLooks := .later }
def WoodMakesUptoCardSaid : Prop := Claim7.holds Tryz.pinned (.plain (OpenSpec.upto woodMakesSpec)) woodMakesUptoCard

/-- THE SECOND FORM's CARD OF 'parquetrylaw15.WoodOf'. -/
def woodOfUptoCard : Claim7 := { stood := { row := woodOfUptoRow, standIns := [], harness := (true, "bde959a0c557517c0e89008615b5c4d67a1318a03ba1278c982d2ceeb48be777"), looks := false }, kinds := [], alts := [], laidByText := true, laidKinds := [.data], laidTests := true, laidLooks := .later }
def WoodOfUptoCardSaid : Prop := Claim7.holds Tryz.pinned (.plain (OpenSpec.upto woodOfSpec)) woodOfUptoCard

/-- THE SECOND FORM's CARD OF 'parquetrylaw15.WoodNo'. -/
def woodNoUptoCard : Claim7 := { stood := { row := woodNoUptoRow, standIns := [], harness := (true, "bde959a0c557517c0e89008615b5c4d67a1318a03ba1278c982d2ceeb48be777"), looks := false }, kinds := [], alts := [], laidByText := true, laidKinds := [.data], laidTests := true, laidLooks := .later }
def WoodNoUptoCardSaid : Prop := Claim7.holds Tryz.pinned (.plain (OpenSpec.upto woodNoSpec)) woodNoUptoCard
end Rows
end Go.Proofs.YtgphnkkdmlohlaaGreatDoor

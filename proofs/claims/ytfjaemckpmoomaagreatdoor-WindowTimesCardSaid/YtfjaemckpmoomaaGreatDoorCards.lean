/-
  DERIVED. GIVEN WITH THE SEED: THE CARDS: each row of YtfjaemckpmoomaaGreatDoorRows.lean that lists a variable, with what it lists TIED to the program's text (the seventh form; the later family's looks); each row that meets fmt, with fmt's text TOLD by the authors' own Lean function (tested against real Go, not proved from fmt's source: count such statements apart). THE CARD IS WHAT COUNTS. Prove the row's statement (the work); the ties are given (YtfjaemckpmoomaaGreatDoorTie.lean); close each card by the builder's one call (the guide's Derived/Test/ToyasCard.lean, 'card_holds'). Laid BY PROGRAM, IN A SANDBOX (cutbox-door.mjs). By AI agents, Wed Nov 11 2026. No macro, syntax, notation, axiom, sorry.
-/
import Derived.Test.YtfjaemckpmoomaaGreatDoorRows
import GoSem.ClaimSeven
namespace Go.Proofs.YtfjaemckpmoomaaGreatDoor
namespace Rows

/-- THE TIED CARD OF 'lookoutlaw35.WindowTimes'. -/
def windowTimesCard : Claim7 := { stood := { row := windowTimesRow, standIns := [], harness := (true, "c9905650ac1ac76d74d08ab2e7d2805436bc24113ddcf36c05813a4468640032"), looks := false }, kinds := [], alts := [], laidByText := true, laidKinds := [.listed, .data], laidTests := true, laidLooks := .later }
def WindowTimesCardSaid : Prop := Claim7.holds Tryz.pinned (.plain (OpenSpec.ofChange windowTimesSpec)) windowTimesCard

/-- THE SECOND FORM's CARD OF 'lookoutlaw35.WindowTimes'. -/
def windowTimesUptoCard : Claim7 := { stood := { row := windowTimesUptoRow, standIns := [], harness := (true, "c9905650ac1ac76d74d08ab2e7d2805436bc24113ddcf36c05813a4468640032"), looks := false }, kinds := [], alts := [], laidByText := true, laidKinds := [.listed, .data], laidTests := true, laidLooks := .later }
def WindowTimesUptoCardSaid : Prop := Claim7.holds Tryz.pinned (.plain (OpenSpec.upto windowTimesSpec)) windowTimesUptoCard
end Rows
end Go.Proofs.YtfjaemckpmoomaaGreatDoor

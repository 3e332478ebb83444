/-
  DERIVED. GIVEN WITH THE SEED: THE CARDS: each row of YtadafplbgophfaaGreatDoorRows.lean that lists a variable, with what it lists TIED to the program's text (the seventh form; the later family's looks); each row that meets fmt, with fmt's text TOLD by the authors' own Lean function (tested against real Go, not proved from fmt's source: count such statements apart). THE CARD IS WHAT COUNTS. Prove the row's statement (the work); the ties are given (YtadafplbgophfaaGreatDoorTie.lean); close each card by the builder's one call (the guide's Derived/Test/ToyasCard.lean, 'card_holds'). Laid BY PROGRAM, IN A SANDBOX (cutbox-door.mjs). By AI agents, Wed Nov 11 2026. No macro, syntax, notation, axiom, sorry.
-/
import Derived.Test.YtadafplbgophfaaGreatDoorRows
import GoSem.ClaimSeven
namespace Go.Proofs.YtadafplbgophfaaGreatDoor
namespace Rows

/-- THE TIED CARD OF 'tripartitelaw05.PatchTurns'. -/
def patchTurnsCard : Claim7 := { stood := { row := patchTurnsRow, standIns := [], harness := (true, "28fe8d92f3df29d8dfc2d194fc9e4177f4394a23eaf001c3929d235109a808df"), looks := true }, kinds := [], alts := [], laidByText := true, laidKinds := [.data, .data, .data, .data, .sentinel, .sentinel, .pinned], laidTests := true, laidLooks := .later }
def PatchTurnsCardSaid : Prop := Claim7.holds Tryz.pinned (.plain (OpenSpec.ofChange patchTurnsSpec)) patchTurnsCard

/-- THE SECOND FORM's CARD OF 'tripartitelaw05.PatchTurns'. -/
def patchTurnsUptoCard : Claim7 := { stood := { row := patchTurnsUptoRow, standIns := [], harness := (true, "28fe8d92f3df29d8dfc2d194fc9e4177f4394a23eaf001c3929d235109a808df"), looks := true }, kinds := [], alts := [], laidByText := true, laidKinds := [.data, .data, .data, .data, .sentinel, .sentinel, .pinned], laidTests := true, laidLooks := .later }
def PatchTurnsUptoCardSaid : Prop := Claim7.holds Tryz.pinned (.plain (OpenSpec.upto patchTurnsSpec)) patchTurnsUptoCard
end Rows
end Go.Proofs.YtadafplbgophfaaGreatDoor

/-
  DERIVED. GIVEN WITH THE SEED: THE CARDS: each row of YtonkmclifimcmaaGreatDoorRows.lean that lists a variable, with what it lists TIED to the program's text (the seventh form; the later family's looks); each row that meets fmt, with fmt's text TOLD by the authors' own Lean function (tested against real Go, not proved from fmt's source: count such statements apart). THE CARD IS WHAT COUNTS. Prove the row's statement (the work); the ties are given (YtonkmclifimcmaaGreatDoorTie.lean); close each card by the builder's one call (the guide's Derived/Test/ToyasCard.lean, 'card_holds'). Laid BY PROGRAM, IN A SANDBOX (cutbox-door.mjs). By AI agents, Wed Nov 11 2026. No macro, syntax, notation, axiom, sorry.
-/
import Derived.Test.YtonkmclifimcmaaGreatDoorRows
import GoSem.ClaimSeven
namespace Go.Proofs.YtonkmclifimcmaaGreatDoor
namespace Rows

/-- THE TIED CARD OF 'pyxlaw12.EntryKnown'. -/
def entryKnownCard : Claim7 := { stood := { row := entryKnownRow, standIns := [], harness := (true, "a3ecae23b4d6121429c2401a1edda6100bb207f132facacce7ddf1b41b709365"), looks := true }, kinds := [], alts := [], laidByText := true, laidKinds := [.data, .data, .data, .data, .sentinel, .sentinel, .pinned], laidTests := true, laidLooks := .later }
def EntryKnownCardSaid : Prop := Claim7.holds Tryz.pinned (.plain (OpenSpec.ofChange entryKnownSpec)) entryKnownCard

/-- THE TIED CARD OF 'pyxlaw26.CmdKnown'. -/
def cmdKnownCard : Claim7 := { stood := { row := cmdKnownRow, standIns := [], harness := (true, "a3ecae23b4d6121429c2401a1edda6100bb207f132facacce7ddf1b41b709365"), looks := true }, kinds := [], alts := [], laidByText := true, laidKinds := [.data, .data, .data, .data, .sentinel, .sentinel, .pinned], laidTests := true, laidLooks := .later }
def CmdKnownCardSaid : Prop := Claim7.holds Tryz.pinned (.plain (OpenSpec.ofChange cmdKnownSpec)) cmdKnownCard

/-- THE TIED CARD OF 'pyxlaw23.ViewKnown'. -/
def viewKnownCard : Claim7 := { stood := { row := viewKnownRow, standIns := [], harness := (true, "a3ecae23b4d6121429c2401a1edda6100bb207f132facacce7ddf1b41b709365"), looks := true }, kinds := [], alts := [], laidByText := true, laidKinds := [.data, .pinned], laidTests := true, laidLooks := .later }
def ViewKnownCardSaid : Prop := Claim7.holds Tryz.pinned (.plain (OpenSpec.ofChange viewKnownSpec)) viewKnownCard

/-- THE SECOND FORM's CARD OF 'pyxlaw12.EntryKnown'. -/
def entryKnownUptoCard : Claim7 := { stood := { row := entryKnownUptoRow, standIns := [], harness := (true, "a3ecae23b4d6121429c2401a1edda6100bb207f132facacce7ddf1b41b709365"), looks := true }, kinds := [], alts := [], laidByText := true, laidKinds := [.data, .data, .data, .data, .sentinel, .sentinel, .pinned], laidTests := true, laidLooks := .later }
def EntryKnownUptoCardSaid : Prop := Claim7.holds Tryz.pinned (.plain (OpenSpec.upto entryKnownSpec)) entryKnownUptoCard

/-- THE SECOND FORM's CARD OF 'pyxlaw26.CmdKnown'. -/
def cmdKnownUptoCard : Claim7 := { stood := { row := cmdKnownUptoRow, standIns := [], harness := (true, "a3ecae23b4d6121429c2401a1edda6100bb207f132facacce7ddf1b41b709365"), looks := true }, kinds := [], alts := [], laidByText := true, laidKinds := [.data, .data, .data, .data, .sentinel, .sentinel, .pinned], laidTests := true, laidLooks := .later }
def CmdKnownUptoCardSaid : Prop := Claim7.holds Tryz.pinned (.plain (OpenSpec.upto cmdKnownSpec)) cmdKnownUptoCard

/-- THE SECOND FORM's CARD OF 'pyxlaw23.ViewKnown'. -/
def viewKnownUptoCard : Claim7 := { stood := { row := viewKnownUptoRow, standIns := [], harness := (true, "a3ecae23b4d6121429c2401a1edda6100bb207f132facacce7ddf1b41b709365"), looks := true }, kinds := [], alts := [], laidByText := true, laidKinds := [.data, .pinned], laidTests := true, laidLooks := .later }
def ViewKnownUptoCardSaid : Prop := Claim7.holds Tryz.pinned (.plain (OpenSpec.upto viewKnownSpec)) viewKnownUptoCard
end Rows
end Go.Proofs.YtonkmclifimcmaaGreatDoor

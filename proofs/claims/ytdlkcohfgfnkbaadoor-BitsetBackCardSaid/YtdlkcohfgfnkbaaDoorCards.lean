/-
  DERIVED. GIVEN WITH THE SEED: THE CARDS: each row of YtdlkcohfgfnkbaaDoorRows.lean that lists a variable, with what it lists TIED to the program's text (the seventh form; the later family's looks); each row that meets fmt, with fmt's text TOLD by the authors' own Lean function (tested against real Go, not proved from fmt's source: count such statements apart). THE CARD IS WHAT COUNTS. Prove the row's statement (the work); the ties are given (YtdlkcohfgfnkbaaDoorTie.lean); close each card by the builder's one call (the guide's Derived/Test/ToyasCard.lean, 'card_holds'). Laid BY PROGRAM, IN A SANDBOX (cutbox-door.mjs). By AI agents, Wed Nov 11 2026. No macro, syntax, notation, axiom, sorry.
-/
import Derived.Test.YtdlkcohfgfnkbaaDoorRows
import GoSem.ClaimSeven
namespace Go.Proofs.YtdlkcohfgfnkbaaDoor
namespace Rows

/-- THE TIED CARD OF 'windbreaklaw14.BitsetTells'. -/
def bitsetTellsCard : Claim7 := { stood := { row := bitsetTellsRow, standIns := [], harness := (true, "897440cffa4f1bdf332ab855d005e3716c39471c772d08b3e500619627f3b140"), looks := false }, kinds := [], alts := [], laidByText := true, laidKinds := [.data], laidTests := true, laidLooks := .later }
def BitsetTellsCardSaid : Prop := Claim7.holds Tryd.pinned (.plain (OpenSpec.ofChange bitsetTellsSpec)) bitsetTellsCard

/-- THE TIED CARD OF 'windbreaklaw14.BitsetBack'. -/
def bitsetBackCard : Claim7 := { stood := { row := bitsetBackRow, standIns := [], harness := (true, "897440cffa4f1bdf332ab855d005e3716c39471c772d08b3e500619627f3b140"), looks := false }, kinds := [], alts := [], laidByText := true, laidKinds := [.data], laidTests := true, laidLooks := .later }
def BitsetBackCardSaid : Prop := Claim7.holds Tryd.pinned (.plain (OpenSpec.ofChange bitsetBackSpec)) bitsetBackCard

/-- THE SECOND FORM's CARD OF 'windbreaklaw14.BitsetTells'. -/
def bitsetTellsUptoCard : Claim7 := { stood := { row := bitsetTellsUptoRow, standIns := [], harness := (true, "897440cffa4f1bdf332ab855d005e3716c39471c772d08b3e500619627f3b140"), looks := false }, kinds := [], alts := [], laidByText := true, laidKinds := [.data], laidTests := true, laidLooks := .later }
def BitsetTellsUptoCardSaid : Prop := Claim7.holds Tryd.pinned (.plain (OpenSpec.upto bitsetTellsSpec)) bitsetTellsUptoCard

/-- THE SECOND FORM's CARD OF 'windbreaklaw14.BitsetBack'. -/
def bitsetBackUptoCard : Claim7 := { stood := { row := bitsetBackUptoRow, standIns := [], harness := (true, "897440cffa4f1bdf332ab855d005e3716c39471c772d08b3e500619627f3b140"), looks := false }, kinds := [], alts := [], laidByText := true, laidKinds := [.data], laidTests := true, laidLooks := .later }
def BitsetBackUptoCardSaid : Prop := Claim7.holds Tryd.pinned (.plain (OpenSpec.upto bitsetBackSpec)) bitsetBackUptoCard
end Rows
end Go.Proofs.YtdlkcohfgfnkbaaDoor

/-
  DERIVED. GIVEN WITH THE SEED: THE CARDS: each row of YtdglmghhlokonaaDoorRows.lean that lists a variable, with what it lists TIED to the program's text (the seventh form; the later family's looks); each row that meets fmt, with fmt's text TOLD by the authors' own Lean function (tested against real Go, not proved from fmt's source: count such statements apart). THE CARD IS WHAT COUNTS. Prove the row's statement (the work); the ties are given (YtdglmghhlokonaaDoorTie.lean); close each card by the builder's one call (the guide's Derived/Test/ToyasCard.lean, 'card_holds'). Laid BY PROGRAM, IN A SANDBOX (cutbox-door.mjs). By AI agents, Wed Nov 11 2026. No macro, syntax, notation, axiom, sorry.
-/
import Derived.Test.YtdglmghhlokonaaDoorRows
import GoSem.ClaimSeven
namespace Go.Proofs.YtdglmghhlokonaaDoor
namespace Rows

/-- THE TIED CARD OF 'laws.FnExactCrc32'. -/
def fnExactCrc32Card : Claim7 := { stood := { row := fnExactCrc32Row, standIns := [], harness := (true, "6abc80f330499f6c1d3729fdd6d37c52a661bebca788059714ce9bd710b16abd"), looks := false }, kinds := [], alts := [], laidByText := true, laidKinds := [.data], laidTests := true, laidLooks := .later }
def FnExactCrc32CardSaid : Prop := Claim7.holds Tryd.pinned (.plain (OpenSpec.ofChange fnExactCrc32Spec)) fnExactCrc32Card

/-- THE SECOND FORM's CARD OF 'laws.FnExactCrc32'. -/
def fnExactCrc32UptoCard : Claim7 := { stood := { row := fnExactCrc32UptoRow, standIns := [], harness := (true, "6abc80f330499f6c1d3729fdd6d37c52a661bebca788059714ce9bd710b16abd"), looks := false }, kinds := [], alts := [], laidByText := true, laidKinds := [.data], laidTests := true, laidLooks := .later }
def FnExactCrc32UptoCardSaid : Prop := Claim7.holds Tryd.pinned (.plain (OpenSpec.upto fnExactCrc32Spec)) fnExactCrc32UptoCard
end Rows
end Go.Proofs.YtdglmghhlokonaaDoor

/-
  DERIVED. GIVEN WITH THE SEED: THE CARDS: each row of YtmiacdacebaagaaDoorRows.lean that lists a variable, with what it lists TIED to the program's text (the seventh form; the later family's looks); each row that meets fmt, with fmt's text TOLD by the authors' own Lean function (tested against real Go, not proved from fmt's source: count such statements apart). THE CARD IS WHAT COUNTS. Prove the row's statement (the work); the ties are given (YtmiacdacebaagaaDoorTie.lean); close each card by the builder's one call (the guide's Derived/Test/ToyasCard.lean, 'card_holds'). Laid BY PROGRAM, IN A SANDBOX (cutbox-door.mjs). By AI agents, Wed Nov 11 2026. No macro, syntax, notation, axiom, sorry.
-/
import Derived.Test.YtmiacdacebaagaaDoorRows
import GoSem.ClaimSeven
namespace Go.Proofs.YtmiacdacebaagaaDoor
namespace Rows

/-- THE TIED CARD OF 'crosstreelaw08.IrChecks'. -/
def irChecksCard : Claim7 := { stood := { row := irChecksRow, standIns := [], harness := (true, "b6152b923d118ed9359872e8165a8bdfd0a3b615ee1aec7708b2fe18be239ee0"), looks := false }, kinds := [], alts := [], laidByText := true, laidKinds := [.listed, .data], laidTests := true, laidLooks := .later }
def IrChecksCardSaid : Prop := Claim7.holds Tryd.pinned (.plain (OpenSpec.ofChange irChecksSpec)) irChecksCard

/-- THE TIED CARD OF 'crosstreelaw08.IrWithin'. -/
def irWithinCard : Claim7 := { stood := { row := irWithinRow, standIns := [], harness := (true, "b6152b923d118ed9359872e8165a8bdfd0a3b615ee1aec7708b2fe18be239ee0"), looks := false }, kinds := [], alts := [], laidByText := true, laidKinds := [.listed, .data], laidTests := true, laidLooks := .later }
def IrWithinCardSaid : Prop := Claim7.holds Tryd.pinned (.plain (OpenSpec.ofChange irWithinSpec)) irWithinCard

/-- THE TIED CARD OF 'crosstreelaw08.IrMore'. -/
def irMoreCard : Claim7 := { stood := { row := irMoreRow, standIns := [], harness := (true, "b6152b923d118ed9359872e8165a8bdfd0a3b615ee1aec7708b2fe18be239ee0"), looks := false }, kinds := [], alts := [], laidByText := true, laidKinds := [.listed, .data], laidTests := true, laidLooks := .later }
def IrMoreCardSaid : Prop := Claim7.holds Tryd.pinned (.plain (OpenSpec.ofChange irMoreSpec)) irMoreCard

/-- THE SECOND FORM's CARD OF 'crosstreelaw08.IrChecks'. -/
def irChecksUptoCard : Claim7 := { stood := { row := irChecksUptoRow, standIns := [], harness := (true, "b6152b923d118ed9359872e8165a8bdfd0a3b615ee1aec7708b2fe18be239ee0"), looks := false }, kinds := [], alts := [], laidByText := true, laidKinds := [.listed, .data], laidTests := true, laidLooks := .later }
def IrChecksUptoCardSaid : Prop := Claim7.holds Tryd.pinned (.plain (OpenSpec.upto irChecksSpec)) irChecksUptoCard

/-- THE SECOND FORM's CARD OF 'crosstreelaw08.IrWithin'. -/
def irWithinUptoCard : Claim7 := { stood := { row := irWithinUptoRow, standIns := [], harness := (true, "b6152b923d118ed9359872e8165a8bdfd0a3b615ee1aec7708b2fe18be239ee0"), looks := false }, kinds := [], alts := [], laidByText := true, laidKinds := [.listed, .data], laidTests := true, laidLooks := .later }
def IrWithinUptoCardSaid : Prop := Claim7.holds Tryd.pinned (.plain (OpenSpec.upto irWithinSpec)) irWithinUptoCard

/-- THE SECOND FORM's CARD OF 'crosstreelaw08.IrMore'. -/
def irMoreUptoCard : Claim7 := { stood := { row := irMoreUptoRow, standIns := [], harness := (true, "b6152b923d118ed9359872e8165a8bdfd0a3b615ee1aec7708b2fe18be239ee0"), looks := false }, kinds := [], alts := [], laidByText := true, laidKinds := [.listed, .data], laidTests := true, laidLooks := .later }
def IrMoreUptoCardSaid : Prop := Claim7.holds Tryd.pinned (.plain (OpenSpec.upto irMoreSpec)) irMoreUptoCard
end Rows
end Go.Proofs.YtmiacdacebaagaaDoor

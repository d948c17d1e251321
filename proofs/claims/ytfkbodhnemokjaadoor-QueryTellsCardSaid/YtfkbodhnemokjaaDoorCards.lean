/-
  DERIVED. GIVEN WITH THE SEED: THE CARDS: each row of YtfkbodhnemokjaaDoorRows.lean that lists a variable, with what it lists TIED to the program's text (the seventh form; the later family's looks); each row that meets fmt, with fmt's text TOLD by the authors' own Lean function (tested against real Go, not proved from fmt's source: count such statements apart). THE CARD IS WHAT COUNTS. Prove the row's statement (the work); the ties are given (YtfkbodhnemokjaaDoorTie.lean); close each card by the builder's one call (the guide's Derived/Test/ToyasCard.lean, 'card_holds'). Laid BY PROGRAM, IN A SANDBOX (cutbox-door.mjs). By AI agents, Wed Nov 11 2026. No macro, syntax, notation, axiom, sorry.
-/
import Derived.Test.YtfkbodhnemokjaaDoorRows
import GoSem.ClaimSeven
namespace Go.Proofs.YtfkbodhnemokjaaDoor
namespace Rows

/-- THE TIED CARD OF 'winnowerlaw16.QueryTells'. -/
def queryTellsCard : Claim7 := { stood := { row := queryTellsRow, standIns := [], harness := (true, "985806bac98925b961f7336da8e6390c92d24fb07ee990eefc9e8346e2265698"), looks := false }, kinds := [], alts := [], laidByText := true, laidKinds := [.data, .pinned], laidTests := true, laidLooks := .later }
def QueryTellsCardSaid : Prop := Claim7.holds Tryd.pinned (.plain (OpenSpec.ofChange queryTellsSpec)) queryTellsCard

/-- THE SECOND FORM's CARD OF 'winnowerlaw16.QueryTells'. -/
def queryTellsUptoCard : Claim7 := { stood := { row := queryTellsUptoRow, standIns := [], harness := (true, "985806bac98925b961f7336da8e6390c92d24fb07ee990eefc9e8346e2265698"), looks := false }, kinds := [], alts := [], laidByText := true, laidKinds := [.data, .pinned], laidTests := true, laidLooks := .later }
def QueryTellsUptoCardSaid : Prop := Claim7.holds Tryd.pinned (.plain (OpenSpec.upto queryTellsSpec)) queryTellsUptoCard
end Rows
end Go.Proofs.YtfkbodhnemokjaaDoor

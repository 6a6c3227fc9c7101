/-
  DERIVED. GIVEN WITH THE SEED: THE CARDS: each row of YtmcopafdooejjaaDoorRows.lean that lists a variable, with what it lists TIED to the program's text (the seventh form; the later family's looks); each row that meets fmt, with fmt's text TOLD by the authors' own Lean function (tested against real Go, not proved from fmt's source: count such statements apart). THE CARD IS WHAT COUNTS. Prove the row's statement (the work); the ties are given (YtmcopafdooejjaaDoorTie.lean); close each card by the builder's one call (the guide's Derived/Test/ToyasCard.lean, 'card_holds'). Laid BY PROGRAM, IN A SANDBOX (cutbox-door.mjs). By AI agents, Wed Nov 11 2026. No macro, syntax, notation, axiom, sorry.
-/
import Derived.Test.YtmcopafdooejjaaDoorRows
import GoSem.ClaimSeven
namespace Go.Proofs.YtmcopafdooejjaaDoor
namespace Rows

/-- THE TIED CARD OF 'psalterylaw34.ScoreParses'. -/
def scoreParsesCard : Claim7 := { stood := { row := scoreParsesRow, standIns := [], harness := (true, "51d5a5777120ff602786291be40f5e4958625a2a3e04b907b043ec2cbcacab71"), looks := false }, kinds := [], alts := [], laidByText := true, laidKinds := [.data, .pinned], laidTests := true, laidLooks := .later }
def ScoreParsesCardSaid : Prop := Claim7.holds Tryd.pinned (.plain (OpenSpec.ofChange scoreParsesSpec)) scoreParsesCard

/-- THE SECOND FORM's CARD OF 'psalterylaw34.ScoreParses'. -/
def scoreParsesUptoCard : Claim7 := { stood := { row := scoreParsesUptoRow, standIns := [], harness := (true, "51d5a5777120ff602786291be40f5e4958625a2a3e04b907b043ec2cbcacab71"), looks := false }, kinds := [], alts := [], laidByText := true, laidKinds := [.data, .pinned], laidTests := true, laidLooks := .later }
def ScoreParsesUptoCardSaid : Prop := Claim7.holds Tryd.pinned (.plain (OpenSpec.upto scoreParsesSpec)) scoreParsesUptoCard
end Rows
end Go.Proofs.YtmcopafdooejjaaDoor

/-
  DERIVED. GIVEN WITH THE SEED: THE CARDS: each row of YtjheabcffkbfkaaDoorRows.lean that lists a variable, with what it lists TIED to the program's text (the seventh form; the later family's looks); each row that meets fmt, with fmt's text TOLD by the authors' own Lean function (tested against real Go, not proved from fmt's source: count such statements apart). THE CARD IS WHAT COUNTS. Prove the row's statement (the work); the ties are given (YtjheabcffkbfkaaDoorTie.lean); close each card by the builder's one call (the guide's Derived/Test/ToyasCard.lean, 'card_holds'). Laid BY PROGRAM, IN A SANDBOX (cutbox-door.mjs). By AI agents, Wed Nov 11 2026. No macro, syntax, notation, axiom, sorry.
-/
import Derived.Test.YtjheabcffkbfkaaDoorRows
import GoSem.ClaimSeven
namespace Go.Proofs.YtjheabcffkbfkaaDoor
namespace Rows

/-- THE TIED CARD OF 'guichetlaw16.MoneyRight'. -/
def moneyRightCard : Claim7 := { stood := { row := moneyRightRow, standIns := [], harness := (true, "d52d498ed9d45910c1615765b4061293abc1a6116d6cbb8e6362bc48b4c64ced"), looks := true }, kinds := [], alts := [], laidByText := true, laidKinds := [.data, .data, .data, .sentinel, .sentinel], laidTests := true, laidLooks := .later }
def MoneyRightCardSaid : Prop := Claim7.holds Tryd.pinned (.plain (OpenSpec.ofChange moneyRightSpec)) moneyRightCard

/-- THE TIED CARD OF 'guichetlaw14.TableWays'. -/
def tableWaysCard : Claim7 := { stood := { row := tableWaysRow, standIns := [], harness := (true, "d52d498ed9d45910c1615765b4061293abc1a6116d6cbb8e6362bc48b4c64ced"), looks := true }, kinds := [], alts := [], laidByText := true, laidKinds := [.data, .data, .data, .sentinel, .sentinel], laidTests := true, laidLooks := .later }
def TableWaysCardSaid : Prop := Claim7.holds Tryd.pinned (.plain (OpenSpec.ofChange tableWaysSpec)) tableWaysCard

/-- THE SECOND FORM's CARD OF 'guichetlaw16.MoneyRight'. -/
def moneyRightUptoCard : Claim7 := { stood := { row := moneyRightUptoRow, standIns := [], harness := (true, "d52d498ed9d45910c1615765b4061293abc1a6116d6cbb8e6362bc48b4c64ced"), looks := true }, kinds := [], alts := [], laidByText := true, laidKinds := [.data, .data, .data, .sentinel, .sentinel], laidTests := true, laidLooks := .later }
def MoneyRightUptoCardSaid : Prop := Claim7.holds Tryd.pinned (.plain (OpenSpec.upto moneyRightSpec)) moneyRightUptoCard

/-- THE SECOND FORM's CARD OF 'guichetlaw14.TableWays'. -/
def tableWaysUptoCard : Claim7 := { stood := { row := tableWaysUptoRow, standIns := [], harness := (true, "d52d498ed9d45910c1615765b4061293abc1a6116d6cbb8e6362bc48b4c64ced"), looks := true }, kinds := [], alts := [], laidByText := true, laidKinds := [.data, .data, .data, .sentinel, .sentinel], laidTests := true, laidLooks := .later }
def TableWaysUptoCardSaid : Prop := Claim7.holds Tryd.pinned (.plain (OpenSpec.upto tableWaysSpec)) tableWaysUptoCard
end Rows
end Go.Proofs.YtjheabcffkbfkaaDoor

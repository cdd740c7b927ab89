/-
  DERIVED. GIVEN WITH THE SEED: THE CARDS: each row of YtkgnjfoclhkgkaaDoorRows.lean that lists a variable, with what it lists TIED to the program's text (the seventh form; the later family's looks); each row that meets fmt, with fmt's text TOLD by the authors' own Lean function (tested against real Go, not proved from fmt's source: count such statements apart). THE CARD IS WHAT COUNTS. Prove the row's statement (the work); the ties are given (YtkgnjfoclhkgkaaDoorTie.lean); close each card by the builder's one call (the guide's Derived/Test/ToyasCard.lean, 'card_holds'). Laid BY PROGRAM, IN A SANDBOX (cutbox-door.mjs). By AI agents, Wed Nov 11 2026. No macro, syntax, notation, axiom, sorry.
-/
import Derived.Test.YtkgnjfoclhkgkaaDoorRows
import GoSem.ClaimSeven
namespace Go.Proofs.YtkgnjfoclhkgkaaDoor
namespace Rows

/-- THE TIED CARD OF 'laws.FnRows'. -/
def fnRowsCard : Claim7 := { stood := { row := fnRowsRow, standIns := [], harness := (true, "582d46f23ac600bc2125452c26decab66f4695c599b2164cb464c4816ccfaa20"), looks := false }, kinds := [], alts := [], laidByText := true, laidKinds := [.data, .data, .pinned], laidTests := true, laidLooks := .later }
def FnRowsCardSaid : Prop := Claim7.holds Tryd.pinned (.plain (OpenSpec.ofChange fnRowsSpec)) fnRowsCard

/-- THE TIED CARD OF 'laws.FnExactWinningTurn'. -/
def fnExactWinningTurnCard : Claim7 := { stood := { row := fnExactWinningTurnRow, standIns := [], harness := (true, "582d46f23ac600bc2125452c26decab66f4695c599b2164cb464c4816ccfaa20"), looks := false }, kinds := [], alts := [], laidByText := true, laidKinds := [.data], laidTests := true, laidLooks := .later }
def FnExactWinningTurnCardSaid : Prop := Claim7.holds Tryd.pinned (.plain (OpenSpec.ofChange fnExactWinningTurnSpec)) fnExactWinningTurnCard

/-- THE TIED CARD OF 'laws.FnExactPlayRow'. -/
def fnExactPlayRowCard : Claim7 := { stood := { row := fnExactPlayRowRow, standIns := [], harness := (true, "582d46f23ac600bc2125452c26decab66f4695c599b2164cb464c4816ccfaa20"), looks := false }, kinds := [], alts := [], laidByText := true, laidKinds := [.data], laidTests := true, laidLooks := .later }
def FnExactPlayRowCardSaid : Prop := Claim7.holds Tryd.pinned (.plain (OpenSpec.ofChange fnExactPlayRowSpec)) fnExactPlayRowCard

/-- THE TIED CARD OF 'laws.FnRowsPlayed'. -/
def fnRowsPlayedCard : Claim7 := { stood := { row := fnRowsPlayedRow, standIns := [], harness := (true, "582d46f23ac600bc2125452c26decab66f4695c599b2164cb464c4816ccfaa20"), looks := false }, kinds := [], alts := [], laidByText := true, laidKinds := [.data], laidTests := true, laidLooks := .later }
def FnRowsPlayedCardSaid : Prop := Claim7.holds Tryd.pinned (.plain (OpenSpec.ofChange fnRowsPlayedSpec)) fnRowsPlayedCard

/-- THE SECOND FORM's CARD OF 'laws.FnRows'. -/
def fnRowsUptoCard : Claim7 := { stood := { row := fnRowsUptoRow, standIns := [], harness := (true, "582d46f23ac600bc2125452c26decab66f4695c599b2164cb464c4816ccfaa20"), looks := false }, kinds := [], alts := [], laidByText := true, laidKinds := [.data, .data, .pinned], laidTests := true, laidLooks := .later }
def FnRowsUptoCardSaid : Prop := Claim7.holds Tryd.pinned (.plain (OpenSpec.upto fnRowsSpec)) fnRowsUptoCard

/-- THE SECOND FORM's CARD OF 'laws.FnExactWinningTurn'. -/
def fnExactWinningTurnUptoCard : Claim7 := { stood := { row := fnExactWinningTurnUptoRow, standIns := [], harness := (true, "582d46f23ac600bc2125452c26decab66f4695c599b2164cb464c4816ccfaa20"), looks := false }, kinds := [], alts := [], laidByText := true, laidKinds := [.data], laidTests := true, laidLooks := .later }
def FnExactWinningTurnUptoCardSaid : Prop := Claim7.holds Tryd.pinned (.plain (OpenSpec.upto fnExactWinningTurnSpec)) fnExactWinningTurnUptoCard

/-- THE SECOND FORM's CARD OF 'laws.FnExactPlayRow'. -/
def fnExactPlayRowUptoCard : Claim7 := { stood := { row := fnExactPlayRowUptoRow, standIns := [], harness := (true, "582d46f23ac600bc2125452c26decab66f4695c599b2164cb464c4816ccfaa20"), looks := false }, kinds := [], alts := [], laidByText := true, laidKinds := [.data], laidTests := true, laidLooks := .later }
def FnExactPlayRowUptoCardSaid : Prop := Claim7.holds Tryd.pinned (.plain (OpenSpec.upto fnExactPlayRowSpec)) fnExactPlayRowUptoCard

/-- THE SECOND FORM's CARD OF 'laws.FnRowsPlayed'. -/
def fnRowsPlayedUptoCard : Claim7 := { stood := { row := fnRowsPlayedUptoRow, standIns := [], harness := (true, "582d46f23ac600bc2125452c26decab66f4695c599b2164cb464c4816ccfaa20"), looks := false }, kinds := [], alts := [], laidByText := true, laidKinds := [.data], laidTests := true, laidLooks := .later }
def FnRowsPlayedUptoCardSaid : Prop := Claim7.holds Tryd.pinned (.plain (OpenSpec.upto fnRowsPlayedSpec)) fnRowsPlayedUptoCard
end Rows
end Go.Proofs.YtkgnjfoclhkgkaaDoor

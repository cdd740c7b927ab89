/-
  DERIVED. GIVEN WITH THE SEED: THE CARDS: each row of YtcghgceihnfnhaaDoorRows.lean that lists a variable, with what it lists TIED to the program's text (the seventh form; the later family's looks); each row that meets fmt, with fmt's text TOLD by the authors' own Lean function (tested against real Go, not proved from fmt's source: count such statements apart). THE CARD IS WHAT COUNTS. Prove the row's statement (the work); the ties are given (YtcghgceihnfnhaaDoorTie.lean); close each card by the builder's one call (the guide's Derived/Test/ToyasCard.lean, 'card_holds'). Laid BY PROGRAM, IN A SANDBOX (cutbox-door.mjs). By AI agents, Wed Nov 11 2026. No macro, syntax, notation, axiom, sorry.
-/
import Derived.Test.YtcghgceihnfnhaaDoorRows
import GoSem.ClaimSeven
namespace Go.Proofs.YtcghgceihnfnhaaDoor
namespace Rows

/-- THE TIED CARD OF 'laws.FnExactReadWord'. -/
def fnExactReadWordCard : Claim7 := { stood := { row := fnExactReadWordRow, standIns := [], harness := (true, "f75518cbb668c6aa7b19abb818ce9017fde0cc677228e2066b12eb3e2535f0fc"), looks := true }, kinds := [], alts := [], laidByText := true, laidKinds := [.data, .data, .data, .data, .sentinel, .sentinel, .pinned], laidTests := true, laidLooks := .later }
def FnExactReadWordCardSaid : Prop := Claim7.holds Tryd.pinned (.plain (OpenSpec.ofChange fnExactReadWordSpec)) fnExactReadWordCard

/-- THE TIED CARD OF 'laws.FnExactReadPoly'. -/
def fnExactReadPolyCard : Claim7 := { stood := { row := fnExactReadPolyRow, standIns := [], harness := (true, "f75518cbb668c6aa7b19abb818ce9017fde0cc677228e2066b12eb3e2535f0fc"), looks := true }, kinds := [], alts := [], laidByText := true, laidKinds := [.data, .data, .data, .data, .sentinel, .sentinel, .pinned], laidTests := true, laidLooks := .later }
def FnExactReadPolyCardSaid : Prop := Claim7.holds Tryd.pinned (.plain (OpenSpec.ofChange fnExactReadPolySpec)) fnExactReadPolyCard

/-- THE TIED CARD OF 'laws.FnExactWordText'. -/
def fnExactWordTextCard : Claim7 := { stood := { row := fnExactWordTextRow, standIns := [], harness := (true, "f75518cbb668c6aa7b19abb818ce9017fde0cc677228e2066b12eb3e2535f0fc"), looks := true }, kinds := [], alts := [], laidByText := true, laidKinds := [.data, .data, .data], laidTests := true, laidLooks := .later }
def FnExactWordTextCardSaid : Prop := Claim7.holds Tryd.pinned (.plain (OpenSpec.ofChange fnExactWordTextSpec)) fnExactWordTextCard

/-- THE TIED CARD OF 'laws.FnExactPolyText'. -/
def fnExactPolyTextCard : Claim7 := { stood := { row := fnExactPolyTextRow, standIns := [], harness := (true, "f75518cbb668c6aa7b19abb818ce9017fde0cc677228e2066b12eb3e2535f0fc"), looks := true }, kinds := [], alts := [], laidByText := true, laidKinds := [.data, .data, .data], laidTests := true, laidLooks := .later }
def FnExactPolyTextCardSaid : Prop := Claim7.holds Tryd.pinned (.plain (OpenSpec.ofChange fnExactPolyTextSpec)) fnExactPolyTextCard

/-- THE SECOND FORM's CARD OF 'laws.FnExactReadWord'. -/
def fnExactReadWordUptoCard : Claim7 := { stood := { row := fnExactReadWordUptoRow, standIns := [], harness := (true, "f75518cbb668c6aa7b19abb818ce9017fde0cc677228e2066b12eb3e2535f0fc"), looks := true }, kinds := [], alts := [], laidByText := true, laidKinds := [.data, .data, .data, .data, .sentinel, .sentinel, .pinned], laidTests := true, laidLooks := .later }
def FnExactReadWordUptoCardSaid : Prop := Claim7.holds Tryd.pinned (.plain (OpenSpec.upto fnExactReadWordSpec)) fnExactReadWordUptoCard

/-- THE SECOND FORM's CARD OF 'laws.FnExactReadPoly'. -/
def fnExactReadPolyUptoCard : Claim7 := { stood := { row := fnExactReadPolyUptoRow, standIns := [], harness := (true, "f75518cbb668c6aa7b19abb818ce9017fde0cc677228e2066b12eb3e2535f0fc"), looks := true }, kinds := [], alts := [], laidByText := true, laidKinds := [.data, .data, .data, .data, .sentinel, .sentinel, .pinned], laidTests := true, laidLooks := .later }
def FnExactReadPolyUptoCardSaid : Prop := Claim7.holds Tryd.pinned (.plain (OpenSpec.upto fnExactReadPolySpec)) fnExactReadPolyUptoCard

/-- THE SECOND FORM's CARD OF 'laws.FnExactWordText'. -/
def fnExactWordTextUptoCard : Claim7 := { stood := { row := fnExactWordTextUptoRow, standIns := [], harness := (true, "f75518cbb668c6aa7b19abb818ce9017fde0cc677228e2066b12eb3e2535f0fc"), looks := true }, kinds := [], alts := [], laidByText := true, laidKinds := [.data, .data, .data], laidTests := true, laidLooks := .later }
def FnExactWordTextUptoCardSaid : Prop := Claim7.holds Tryd.pinned (.plain (OpenSpec.upto fnExactWordTextSpec)) fnExactWordTextUptoCard

/-- THE SECOND FORM's CARD OF 'laws.FnExactPolyText'. -/
def fnExactPolyTextUptoCard : Claim7 := { stood := { row := fnExactPolyTextUptoRow, standIns := [], harness := (true, "f75518cbb668c6aa7b19abb818ce9017fde0cc677228e2066b12eb3e2535f0fc"), looks := true }, kinds := [], alts := [], laidByText := true, laidKinds := [.data, .data, .data], laidTests := true, laidLooks := .later }
def FnExactPolyTextUptoCardSaid : Prop := Claim7.holds Tryd.pinned (.plain (OpenSpec.upto fnExactPolyTextSpec)) fnExactPolyTextUptoCard
end Rows
end Go.Proofs.YtcghgceihnfnhaaDoor

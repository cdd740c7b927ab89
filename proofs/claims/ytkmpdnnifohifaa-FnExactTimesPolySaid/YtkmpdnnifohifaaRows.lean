/-
  No cell of these rows narrows 'for every input' (looked for: loops, veiled, ifaces, maps, wideKeys, modest, calm, conditions, laid).
  DERIVED. THE GIVEN ROWS OF THIS SEAT. 10 by the template 'for every input the law returns true; each argument reads behind the call as it read before'; 0 by the template 'total and deterministic' (their statements: YtkmpdnnifohifaaTotals.lean).
  GIVEN WITH THE SEED: the statements are not yours to turn. If you find one false, say at which input.
  Laid BY PROGRAM, IN A SANDBOX (cutbox-rows.mjs): the forced cells as the released guide's own fill.sh prints them over the translation 869948240fa6492b… (all of the seat's roots in one cut). By AI agents, Wed Nov 11 2026. No macro, syntax, notation, axiom, sorry.
-/
import Derived.Test.YtkmpdnnifohifaaChecked
import GoSem.Claim
import GoSem.ClaimJoined
import GoSem.ClaimMapViews
import Derived.JoinedTies
import Derived.KernelRfl
namespace Go.Proofs.Ytkmpdnnifohifaa
/- THE CELL 'sum', in the pinned program and in every row, IS THE sha256 OF THE DUMP (.gsa) THAT YtkmpdnnifohifaaProg.lean LOADS. Nothing in Lean hashes anything: it is a label: what it is worth is what the hold of that sum in a sandbox is worth. -/
noncomputable def Try.pinned : Pinned := { name := "ytkmpdnnifohifaa", sum := "869948240fa6492bf91f60e24f4a28d3f11ba003fef005ab9abf5911d767e000", checked := Try.checked }
namespace Rows
def none {H : Type} : Left H := { results := [], args := [] }

/-- 'laws.FnExactTrimPoly': WHATEVER THE INPUT: true; the input reads as it did. -/
def fnExactTrimPolySpec : ChangeSpec := { name := "fnExactTrimPoly", fn := fun _ => fun
  | [d] => { results := [.lit (.bool true)], args := [d] }
  | _ => none }
def fnExactTrimPolyRow : OpenClaim := { program := "ytkmpdnnifohifaa", sum := "869948240fa6492bf91f60e24f4a28d3f11ba003fef005ab9abf5911d767e000", func := "loop.example/g01307/laws.FnExactTrimPoly", spec := "fnExactTrimPoly", apart := false }
def FnExactTrimPolySaid : Prop := fnExactTrimPolyRow.holds Try.pinned (OpenSpec.ofChange fnExactTrimPolySpec)

/-- ITS FALSE NEIGHBOUR: 'it returns false'. Refute it at one input. -/
def fnExactTrimPolyWrong : ChangeSpec := { name := "fnExactTrimPoly", fn := fun _ => fun
  | [d] => { results := [.lit (.bool false)], args := [d] }
  | _ => none }
def FnExactTrimPolyWrongFalsely : Prop := fnExactTrimPolyRow.holds Try.pinned (OpenSpec.ofChange fnExactTrimPolyWrong)

/-- 'laws.FnExactSlopeOf': WHATEVER THE INPUT: true; the input reads as it did. -/
def fnExactSlopeOfSpec : ChangeSpec := { name := "fnExactSlopeOf", fn := fun _ => fun
  | [d] => { results := [.lit (.bool true)], args := [d] }
  | _ => none }
def fnExactSlopeOfRow : OpenClaim := { program := "ytkmpdnnifohifaa", sum := "869948240fa6492bf91f60e24f4a28d3f11ba003fef005ab9abf5911d767e000", func := "loop.example/g01307/laws.FnExactSlopeOf", spec := "fnExactSlopeOf", apart := false }
def FnExactSlopeOfSaid : Prop := fnExactSlopeOfRow.holds Try.pinned (OpenSpec.ofChange fnExactSlopeOfSpec)

/-- ITS FALSE NEIGHBOUR: 'it returns false'. Refute it at one input. -/
def fnExactSlopeOfWrong : ChangeSpec := { name := "fnExactSlopeOf", fn := fun _ => fun
  | [d] => { results := [.lit (.bool false)], args := [d] }
  | _ => none }
def FnExactSlopeOfWrongFalsely : Prop := fnExactSlopeOfRow.holds Try.pinned (OpenSpec.ofChange fnExactSlopeOfWrong)

/-- 'laws.FnExactPolyAt': WHATEVER THE INPUT: true; the input reads as it did. -/
def fnExactPolyAtSpec : ChangeSpec := { name := "fnExactPolyAt", fn := fun _ => fun
  | [d1, d2] => { results := [.lit (.bool true)], args := [d1, d2] }
  | _ => none }
def fnExactPolyAtRow : OpenClaim := { program := "ytkmpdnnifohifaa", sum := "869948240fa6492bf91f60e24f4a28d3f11ba003fef005ab9abf5911d767e000", func := "loop.example/g01307/laws.FnExactPolyAt", spec := "fnExactPolyAt", recurses := true, apart := false }
def FnExactPolyAtSaid : Prop := fnExactPolyAtRow.holds Try.pinned (OpenSpec.ofChange fnExactPolyAtSpec)

/-- ITS FALSE NEIGHBOUR: 'it returns false'. Refute it at one input. -/
def fnExactPolyAtWrong : ChangeSpec := { name := "fnExactPolyAt", fn := fun _ => fun
  | [d1, d2] => { results := [.lit (.bool false)], args := [d1, d2] }
  | _ => none }
def FnExactPolyAtWrongFalsely : Prop := fnExactPolyAtRow.holds Try.pinned (OpenSpec.ofChange fnExactPolyAtWrong)

/-- 'laws.FnExactPlusPoly': WHATEVER THE INPUT: true; the input reads as it did. -/
def fnExactPlusPolySpec : ChangeSpec := { name := "fnExactPlusPoly", fn := fun _ => fun
  | [d1, d2] => { results := [.lit (.bool true)], args := [d1, d2] }
  | _ => none }
def fnExactPlusPolyRow : OpenClaim := { program := "ytkmpdnnifohifaa", sum := "869948240fa6492bf91f60e24f4a28d3f11ba003fef005ab9abf5911d767e000", func := "loop.example/g01307/laws.FnExactPlusPoly", spec := "fnExactPlusPoly", unfollowed := true, recurses := true, apart := false }
def FnExactPlusPolySaid : Prop := fnExactPlusPolyRow.holds Try.pinned (OpenSpec.ofChange fnExactPlusPolySpec)

/-- ITS FALSE NEIGHBOUR: 'it returns false'. Refute it at one input. -/
def fnExactPlusPolyWrong : ChangeSpec := { name := "fnExactPlusPoly", fn := fun _ => fun
  | [d1, d2] => { results := [.lit (.bool false)], args := [d1, d2] }
  | _ => none }
def FnExactPlusPolyWrongFalsely : Prop := fnExactPlusPolyRow.holds Try.pinned (OpenSpec.ofChange fnExactPlusPolyWrong)

/-- 'laws.FnExactRootOfPoly': WHATEVER THE INPUT: true; the input reads as it did. -/
def fnExactRootOfPolySpec : ChangeSpec := { name := "fnExactRootOfPoly", fn := fun _ => fun
  | [d] => { results := [.lit (.bool true)], args := [d] }
  | _ => none }
def fnExactRootOfPolyRow : OpenClaim := { program := "ytkmpdnnifohifaa", sum := "869948240fa6492bf91f60e24f4a28d3f11ba003fef005ab9abf5911d767e000", func := "loop.example/g01307/laws.FnExactRootOfPoly", spec := "fnExactRootOfPoly", recurses := true, apart := false }
def FnExactRootOfPolySaid : Prop := fnExactRootOfPolyRow.holds Try.pinned (OpenSpec.ofChange fnExactRootOfPolySpec)

/-- ITS FALSE NEIGHBOUR: 'it returns false'. Refute it at one input. -/
def fnExactRootOfPolyWrong : ChangeSpec := { name := "fnExactRootOfPoly", fn := fun _ => fun
  | [d] => { results := [.lit (.bool false)], args := [d] }
  | _ => none }
def FnExactRootOfPolyWrongFalsely : Prop := fnExactRootOfPolyRow.holds Try.pinned (OpenSpec.ofChange fnExactRootOfPolyWrong)

/-- 'laws.FnExactMinimalPoly': WHATEVER THE INPUT: true; the input reads as it did. -/
def fnExactMinimalPolySpec : ChangeSpec := { name := "fnExactMinimalPoly", fn := fun _ => fun
  | [d] => { results := [.lit (.bool true)], args := [d] }
  | _ => none }
def fnExactMinimalPolyRow : OpenClaim := { program := "ytkmpdnnifohifaa", sum := "869948240fa6492bf91f60e24f4a28d3f11ba003fef005ab9abf5911d767e000", func := "loop.example/g01307/laws.FnExactMinimalPoly", spec := "fnExactMinimalPoly", recurses := true, apart := false }
def FnExactMinimalPolySaid : Prop := fnExactMinimalPolyRow.holds Try.pinned (OpenSpec.ofChange fnExactMinimalPolySpec)

/-- ITS FALSE NEIGHBOUR: 'it returns false'. Refute it at one input. -/
def fnExactMinimalPolyWrong : ChangeSpec := { name := "fnExactMinimalPoly", fn := fun _ => fun
  | [d] => { results := [.lit (.bool false)], args := [d] }
  | _ => none }
def FnExactMinimalPolyWrongFalsely : Prop := fnExactMinimalPolyRow.holds Try.pinned (OpenSpec.ofChange fnExactMinimalPolyWrong)

/-- 'laws.FnExactScalePoly': WHATEVER THE INPUT: true; the input reads as it did. -/
def fnExactScalePolySpec : ChangeSpec := { name := "fnExactScalePoly", fn := fun _ => fun
  | [d1, d2] => { results := [.lit (.bool true)], args := [d1, d2] }
  | _ => none }
def fnExactScalePolyRow : OpenClaim := { program := "ytkmpdnnifohifaa", sum := "869948240fa6492bf91f60e24f4a28d3f11ba003fef005ab9abf5911d767e000", func := "loop.example/g01307/laws.FnExactScalePoly", spec := "fnExactScalePoly", recurses := true, apart := false }
def FnExactScalePolySaid : Prop := fnExactScalePolyRow.holds Try.pinned (OpenSpec.ofChange fnExactScalePolySpec)

/-- ITS FALSE NEIGHBOUR: 'it returns false'. Refute it at one input. -/
def fnExactScalePolyWrong : ChangeSpec := { name := "fnExactScalePoly", fn := fun _ => fun
  | [d1, d2] => { results := [.lit (.bool false)], args := [d1, d2] }
  | _ => none }
def FnExactScalePolyWrongFalsely : Prop := fnExactScalePolyRow.holds Try.pinned (OpenSpec.ofChange fnExactScalePolyWrong)

/-- 'laws.FnExactRootsIn': WHATEVER THE INPUT: true; the input reads as it did. -/
def fnExactRootsInSpec : ChangeSpec := { name := "fnExactRootsIn", fn := fun _ => fun
  | [d1, d2] => { results := [.lit (.bool true)], args := [d1, d2] }
  | _ => none }
def fnExactRootsInRow : OpenClaim := { program := "ytkmpdnnifohifaa", sum := "869948240fa6492bf91f60e24f4a28d3f11ba003fef005ab9abf5911d767e000", func := "loop.example/g01307/laws.FnExactRootsIn", spec := "fnExactRootsIn", recurses := true, apart := false }
def FnExactRootsInSaid : Prop := fnExactRootsInRow.holds Try.pinned (OpenSpec.ofChange fnExactRootsInSpec)

/-- ITS FALSE NEIGHBOUR: 'it returns false'. Refute it at one input. -/
def fnExactRootsInWrong : ChangeSpec := { name := "fnExactRootsIn", fn := fun _ => fun
  | [d1, d2] => { results := [.lit (.bool false)], args := [d1, d2] }
  | _ => none }
def FnExactRootsInWrongFalsely : Prop := fnExactRootsInRow.holds Try.pinned (OpenSpec.ofChange fnExactRootsInWrong)

/-- 'laws.FnExactFromRoots': WHATEVER THE INPUT: true; the input reads as it did. -/
def fnExactFromRootsSpec : ChangeSpec := { name := "fnExactFromRoots", fn := fun _ => fun
  | [d] => { results := [.lit (.bool true)], args := [d] }
  | _ => none }
def fnExactFromRootsRow : OpenClaim := { program := "ytkmpdnnifohifaa", sum := "869948240fa6492bf91f60e24f4a28d3f11ba003fef005ab9abf5911d767e000", func := "loop.example/g01307/laws.FnExactFromRoots", spec := "fnExactFromRoots", recurses := true, apart := false }
def FnExactFromRootsSaid : Prop := fnExactFromRootsRow.holds Try.pinned (OpenSpec.ofChange fnExactFromRootsSpec)

/-- ITS FALSE NEIGHBOUR: 'it returns false'. Refute it at one input. -/
def fnExactFromRootsWrong : ChangeSpec := { name := "fnExactFromRoots", fn := fun _ => fun
  | [d] => { results := [.lit (.bool false)], args := [d] }
  | _ => none }
def FnExactFromRootsWrongFalsely : Prop := fnExactFromRootsRow.holds Try.pinned (OpenSpec.ofChange fnExactFromRootsWrong)

/-- 'laws.FnExactTimesPoly': WHATEVER THE INPUT: true; the input reads as it did. -/
def fnExactTimesPolySpec : ChangeSpec := { name := "fnExactTimesPoly", fn := fun _ => fun
  | [d1, d2] => { results := [.lit (.bool true)], args := [d1, d2] }
  | _ => none }
def fnExactTimesPolyRow : OpenClaim := { program := "ytkmpdnnifohifaa", sum := "869948240fa6492bf91f60e24f4a28d3f11ba003fef005ab9abf5911d767e000", func := "loop.example/g01307/laws.FnExactTimesPoly", spec := "fnExactTimesPoly", unfollowed := true, recurses := true, apart := false }
def FnExactTimesPolySaid : Prop := fnExactTimesPolyRow.holds Try.pinned (OpenSpec.ofChange fnExactTimesPolySpec)

/-- ITS FALSE NEIGHBOUR: 'it returns false'. Refute it at one input. -/
def fnExactTimesPolyWrong : ChangeSpec := { name := "fnExactTimesPoly", fn := fun _ => fun
  | [d1, d2] => { results := [.lit (.bool false)], args := [d1, d2] }
  | _ => none }
def FnExactTimesPolyWrongFalsely : Prop := fnExactTimesPolyRow.holds Try.pinned (OpenSpec.ofChange fnExactTimesPolyWrong)

/- THE SECOND FORM. 'bulk': how many values and letters a reading holds, each counted each time it is reached (what is shared counts as often as it is met; a slice's spare places count too). A statement '..UptoSaid' is the law's where the arguments, and the package variables that the reading takes, are together of bulk at most 1048576: NARROWER than '..Said'. Prove '..Said' where nothing that the law and all that it calls make is longer than what came in: it says more and counts as full. Else prove '..UptoSaid'. A law counts once. -/
mutual
def uptoBulk {H : Type} : DataW H → Nat
  | .lit (.string bytes) => bytes.length + 1
  | .lit _ => 1
  | .nil => 1
  | .ptr d => uptoBulk d + 1
  | .slice elems spare => uptoBulkAll elems + uptoBulkAll spare + 1
  | .agg parts => uptoBulkAll parts + 1
  | .iface _ d => uptoBulk d + 1
  | .map entries => uptoBulkEntries entries + 1
  | .held _ => 1
def uptoBulkAll {H : Type} : List (DataW H) → Nat
  | [] => 0
  | d :: r => uptoBulk d + uptoBulkAll r
def uptoBulkEntries {H : Type} : List (Lit × DataW H) → Nat
  | [] => 0
  | x :: r => uptoBulkEntry x + uptoBulkEntries r
def uptoBulkEntry {H : Type} : Lit × DataW H → Nat
  | (.string bytes, d) => bytes.length + uptoBulk d + 1
  | (_, d) => uptoBulk d + 1
 end
def uptoSmall : (H : Type) → List (DataW H) → Bool := fun _ ds => decide (uptoBulkAll ds ≤ 1048576)
def OpenSpec.upto (s : _root_.Go.ChangeSpec) : _root_.Go.OpenSpec := { _root_.Go.OpenSpec.ofChange s with cond := some uptoSmall }

/-- 'laws.FnExactTrimPoly', WHERE WHAT IT READS IS OF BULK AT MOST 1048576: true; the input reads as it did. -/
def fnExactTrimPolyUptoRow : OpenClaim := { program := "ytkmpdnnifohifaa", sum := "869948240fa6492bf91f60e24f4a28d3f11ba003fef005ab9abf5911d767e000", func := "loop.example/g01307/laws.FnExactTrimPoly", spec := "fnExactTrimPoly", apart := false, narrowed := true }
def FnExactTrimPolyUptoSaid : Prop := fnExactTrimPolyUptoRow.holds Try.pinned (OpenSpec.upto fnExactTrimPolySpec)

/-- 'laws.FnExactSlopeOf', WHERE WHAT IT READS IS OF BULK AT MOST 1048576: true; the input reads as it did. -/
def fnExactSlopeOfUptoRow : OpenClaim := { program := "ytkmpdnnifohifaa", sum := "869948240fa6492bf91f60e24f4a28d3f11ba003fef005ab9abf5911d767e000", func := "loop.example/g01307/laws.FnExactSlopeOf", spec := "fnExactSlopeOf", apart := false, narrowed := true }
def FnExactSlopeOfUptoSaid : Prop := fnExactSlopeOfUptoRow.holds Try.pinned (OpenSpec.upto fnExactSlopeOfSpec)

/-- 'laws.FnExactPolyAt', WHERE WHAT IT READS IS OF BULK AT MOST 1048576: true; the input reads as it did. -/
def fnExactPolyAtUptoRow : OpenClaim := { program := "ytkmpdnnifohifaa", sum := "869948240fa6492bf91f60e24f4a28d3f11ba003fef005ab9abf5911d767e000", func := "loop.example/g01307/laws.FnExactPolyAt", spec := "fnExactPolyAt", recurses := true, apart := false, narrowed := true }
def FnExactPolyAtUptoSaid : Prop := fnExactPolyAtUptoRow.holds Try.pinned (OpenSpec.upto fnExactPolyAtSpec)

/-- 'laws.FnExactPlusPoly', WHERE WHAT IT READS IS OF BULK AT MOST 1048576: true; the input reads as it did. -/
def fnExactPlusPolyUptoRow : OpenClaim := { program := "ytkmpdnnifohifaa", sum := "869948240fa6492bf91f60e24f4a28d3f11ba003fef005ab9abf5911d767e000", func := "loop.example/g01307/laws.FnExactPlusPoly", spec := "fnExactPlusPoly", unfollowed := true, recurses := true, apart := false, narrowed := true }
def FnExactPlusPolyUptoSaid : Prop := fnExactPlusPolyUptoRow.holds Try.pinned (OpenSpec.upto fnExactPlusPolySpec)

/-- 'laws.FnExactRootOfPoly', WHERE WHAT IT READS IS OF BULK AT MOST 1048576: true; the input reads as it did. -/
def fnExactRootOfPolyUptoRow : OpenClaim := { program := "ytkmpdnnifohifaa", sum := "869948240fa6492bf91f60e24f4a28d3f11ba003fef005ab9abf5911d767e000", func := "loop.example/g01307/laws.FnExactRootOfPoly", spec := "fnExactRootOfPoly", recurses := true, apart := false, narrowed := true }
def FnExactRootOfPolyUptoSaid : Prop := fnExactRootOfPolyUptoRow.holds Try.pinned (OpenSpec.upto fnExactRootOfPolySpec)

/-- 'laws.FnExactMinimalPoly', WHERE WHAT IT READS IS OF BULK AT MOST 1048576: true; the input reads as it did. -/
def fnExactMinimalPolyUptoRow : OpenClaim := { program := "ytkmpdnnifohifaa", sum := "869948240fa6492bf91f60e24f4a28d3f11ba003fef005ab9abf5911d767e000", func := "loop.example/g01307/laws.FnExactMinimalPoly", spec := "fnExactMinimalPoly", recurses := true, apart := false, narrowed := true }
def FnExactMinimalPolyUptoSaid : Prop := fnExactMinimalPolyUptoRow.holds Try.pinned (OpenSpec.upto fnExactMinimalPolySpec)

/-- 'laws.FnExactScalePoly', WHERE WHAT IT READS IS OF BULK AT MOST 1048576: true; the input reads as it did. -/
def fnExactScalePolyUptoRow : OpenClaim := { program := "ytkmpdnnifohifaa", sum := "869948240fa6492bf91f60e24f4a28d3f11ba003fef005ab9abf5911d767e000", func := "loop.example/g01307/laws.FnExactScalePoly", spec := "fnExactScalePoly", recurses := true, apart := false, narrowed := true }
def FnExactScalePolyUptoSaid : Prop := fnExactScalePolyUptoRow.holds Try.pinned (OpenSpec.upto fnExactScalePolySpec)

/-- 'laws.FnExactRootsIn', WHERE WHAT IT READS IS OF BULK AT MOST 1048576: true; the input reads as it did. -/
def fnExactRootsInUptoRow : OpenClaim := { program := "ytkmpdnnifohifaa", sum := "869948240fa6492bf91f60e24f4a28d3f11ba003fef005ab9abf5911d767e000", func := "loop.example/g01307/laws.FnExactRootsIn", spec := "fnExactRootsIn", recurses := true, apart := false, narrowed := true }
def FnExactRootsInUptoSaid : Prop := fnExactRootsInUptoRow.holds Try.pinned (OpenSpec.upto fnExactRootsInSpec)

/-- 'laws.FnExactFromRoots', WHERE WHAT IT READS IS OF BULK AT MOST 1048576: true; the input reads as it did. -/
def fnExactFromRootsUptoRow : OpenClaim := { program := "ytkmpdnnifohifaa", sum := "869948240fa6492bf91f60e24f4a28d3f11ba003fef005ab9abf5911d767e000", func := "loop.example/g01307/laws.FnExactFromRoots", spec := "fnExactFromRoots", recurses := true, apart := false, narrowed := true }
def FnExactFromRootsUptoSaid : Prop := fnExactFromRootsUptoRow.holds Try.pinned (OpenSpec.upto fnExactFromRootsSpec)

/-- 'laws.FnExactTimesPoly', WHERE WHAT IT READS IS OF BULK AT MOST 1048576: true; the input reads as it did. -/
def fnExactTimesPolyUptoRow : OpenClaim := { program := "ytkmpdnnifohifaa", sum := "869948240fa6492bf91f60e24f4a28d3f11ba003fef005ab9abf5911d767e000", func := "loop.example/g01307/laws.FnExactTimesPoly", spec := "fnExactTimesPoly", unfollowed := true, recurses := true, apart := false, narrowed := true }
def FnExactTimesPolyUptoSaid : Prop := fnExactTimesPolyUptoRow.holds Try.pinned (OpenSpec.upto fnExactTimesPolySpec)

end Rows
end Go.Proofs.Ytkmpdnnifohifaa

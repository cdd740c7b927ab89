/-
  No cell of these rows narrows 'for every input' (looked for: loops, veiled, ifaces, maps, wideKeys, modest, calm, conditions, laid).
  DERIVED. THE GIVEN ROWS OF THIS SEAT. 6 by the template 'for every input the law returns true; each argument reads behind the call as it read before'; 0 by the template 'total and deterministic' (their statements: YtabdpdnofljkcaaTotals.lean).
  GIVEN WITH THE SEED: the statements are not yours to turn. If you find one false, say at which input.
  Laid BY PROGRAM, IN A SANDBOX (cutbox-rows.mjs): the forced cells as the released guide's own fill.sh prints them over the translation 30382239e7013970… (all of the seat's roots in one cut). By AI agents, Wed Nov 11 2026. No macro, syntax, notation, axiom, sorry.
-/
import Derived.Test.YtabdpdnofljkcaaChecked
import GoSem.Claim
import GoSem.ClaimJoined
import GoSem.ClaimMapViews
import Derived.JoinedTies
import Derived.KernelRfl
namespace Go.Proofs.Ytabdpdnofljkcaa
/- THE CELL 'sum', in the pinned program and in every row, IS THE sha256 OF THE DUMP (.gsa) THAT YtabdpdnofljkcaaProg.lean LOADS. Nothing in Lean hashes anything: it is a label: what it is worth is what the hold of that sum in a sandbox is worth. -/
noncomputable def Try.pinned : Pinned := { name := "ytabdpdnofljkcaa", sum := "30382239e7013970622ff40a96133cca39ee9ebe2699d0b2d33245c803899ca2", checked := Try.checked }
namespace Rows
def none {H : Type} : Left H := { results := [], args := [] }

/-- 'laws.FnExactWeightsIn': WHATEVER THE INPUT: true; the input reads as it did. -/
def fnExactWeightsInSpec : ChangeSpec := { name := "fnExactWeightsIn", fn := fun _ => fun
  | [d1, d2] => { results := [.lit (.bool true)], args := [d1, d2] }
  | _ => none }
def fnExactWeightsInRow : OpenClaim := { program := "ytabdpdnofljkcaa", sum := "30382239e7013970622ff40a96133cca39ee9ebe2699d0b2d33245c803899ca2", func := "loop.example/g01307/laws.FnExactWeightsIn", spec := "fnExactWeightsIn", unfollowed := true, recurses := true, plainKeys := false, apart := false }
def FnExactWeightsInSaid : Prop := fnExactWeightsInRow.holds Try.pinned (OpenSpec.ofChange fnExactWeightsInSpec)

/-- ITS FALSE NEIGHBOUR: 'it returns false'. Refute it at one input. -/
def fnExactWeightsInWrong : ChangeSpec := { name := "fnExactWeightsIn", fn := fun _ => fun
  | [d1, d2] => { results := [.lit (.bool false)], args := [d1, d2] }
  | _ => none }
def FnExactWeightsInWrongFalsely : Prop := fnExactWeightsInRow.holds Try.pinned (OpenSpec.ofChange fnExactWeightsInWrong)

/-- 'laws.FnExactGreedyCode': WHATEVER THE INPUT: true; the input reads as it did. -/
def fnExactGreedyCodeSpec : ChangeSpec := { name := "fnExactGreedyCode", fn := fun _ => fun
  | [d1, d2, d3] => { results := [.lit (.bool true)], args := [d1, d2, d3] }
  | _ => none }
def fnExactGreedyCodeRow : OpenClaim := { program := "ytabdpdnofljkcaa", sum := "30382239e7013970622ff40a96133cca39ee9ebe2699d0b2d33245c803899ca2", func := "loop.example/g01307/laws.FnExactGreedyCode", spec := "fnExactGreedyCode", unfollowed := true, recurses := true, plainKeys := false, apart := false }
def FnExactGreedyCodeSaid : Prop := fnExactGreedyCodeRow.holds Try.pinned (OpenSpec.ofChange fnExactGreedyCodeSpec)

/-- ITS FALSE NEIGHBOUR: 'it returns false'. Refute it at one input. -/
def fnExactGreedyCodeWrong : ChangeSpec := { name := "fnExactGreedyCode", fn := fun _ => fun
  | [d1, d2, d3] => { results := [.lit (.bool false)], args := [d1, d2, d3] }
  | _ => none }
def FnExactGreedyCodeWrongFalsely : Prop := fnExactGreedyCodeRow.holds Try.pinned (OpenSpec.ofChange fnExactGreedyCodeWrong)

/-- 'laws.FnExactLeastApartOf': WHATEVER THE INPUT: true; the input reads as it did. -/
def fnExactLeastApartOfSpec : ChangeSpec := { name := "fnExactLeastApartOf", fn := fun _ => fun
  | [d1, d2] => { results := [.lit (.bool true)], args := [d1, d2] }
  | _ => none }
def fnExactLeastApartOfRow : OpenClaim := { program := "ytabdpdnofljkcaa", sum := "30382239e7013970622ff40a96133cca39ee9ebe2699d0b2d33245c803899ca2", func := "loop.example/g01307/laws.FnExactLeastApartOf", spec := "fnExactLeastApartOf", unfollowed := true, recurses := true, plainKeys := false, apart := false }
def FnExactLeastApartOfSaid : Prop := fnExactLeastApartOfRow.holds Try.pinned (OpenSpec.ofChange fnExactLeastApartOfSpec)

/-- ITS FALSE NEIGHBOUR: 'it returns false'. Refute it at one input. -/
def fnExactLeastApartOfWrong : ChangeSpec := { name := "fnExactLeastApartOf", fn := fun _ => fun
  | [d1, d2] => { results := [.lit (.bool false)], args := [d1, d2] }
  | _ => none }
def FnExactLeastApartOfWrongFalsely : Prop := fnExactLeastApartOfRow.holds Try.pinned (OpenSpec.ofChange fnExactLeastApartOfWrong)

/-- 'laws.FnExactNearestOf': WHATEVER THE INPUT: true; the input reads as it did. -/
def fnExactNearestOfSpec : ChangeSpec := { name := "fnExactNearestOf", fn := fun _ => fun
  | [d1, d2, d3] => { results := [.lit (.bool true)], args := [d1, d2, d3] }
  | _ => none }
def fnExactNearestOfRow : OpenClaim := { program := "ytabdpdnofljkcaa", sum := "30382239e7013970622ff40a96133cca39ee9ebe2699d0b2d33245c803899ca2", func := "loop.example/g01307/laws.FnExactNearestOf", spec := "fnExactNearestOf", unfollowed := true, recurses := true, plainKeys := false, apart := false }
def FnExactNearestOfSaid : Prop := fnExactNearestOfRow.holds Try.pinned (OpenSpec.ofChange fnExactNearestOfSpec)

/-- ITS FALSE NEIGHBOUR: 'it returns false'. Refute it at one input. -/
def fnExactNearestOfWrong : ChangeSpec := { name := "fnExactNearestOf", fn := fun _ => fun
  | [d1, d2, d3] => { results := [.lit (.bool false)], args := [d1, d2, d3] }
  | _ => none }
def FnExactNearestOfWrongFalsely : Prop := fnExactNearestOfRow.holds Try.pinned (OpenSpec.ofChange fnExactNearestOfWrong)

/-- 'laws.FnExactClosedUnderSums': WHATEVER THE INPUT: true; the input reads as it did. -/
def fnExactClosedUnderSumsSpec : ChangeSpec := { name := "fnExactClosedUnderSums", fn := fun _ => fun
  | [d1, d2] => { results := [.lit (.bool true)], args := [d1, d2] }
  | _ => none }
def fnExactClosedUnderSumsRow : OpenClaim := { program := "ytabdpdnofljkcaa", sum := "30382239e7013970622ff40a96133cca39ee9ebe2699d0b2d33245c803899ca2", func := "loop.example/g01307/laws.FnExactClosedUnderSums", spec := "fnExactClosedUnderSums", unfollowed := true, recurses := true, plainKeys := false, apart := false }
def FnExactClosedUnderSumsSaid : Prop := fnExactClosedUnderSumsRow.holds Try.pinned (OpenSpec.ofChange fnExactClosedUnderSumsSpec)

/-- ITS FALSE NEIGHBOUR: 'it returns false'. Refute it at one input. -/
def fnExactClosedUnderSumsWrong : ChangeSpec := { name := "fnExactClosedUnderSums", fn := fun _ => fun
  | [d1, d2] => { results := [.lit (.bool false)], args := [d1, d2] }
  | _ => none }
def FnExactClosedUnderSumsWrongFalsely : Prop := fnExactClosedUnderSumsRow.holds Try.pinned (OpenSpec.ofChange fnExactClosedUnderSumsWrong)

/-- 'laws.FnExactRepairWith': WHATEVER THE INPUT: true; the input reads as it did. -/
def fnExactRepairWithSpec : ChangeSpec := { name := "fnExactRepairWith", fn := fun _ => fun
  | [d1, d2, d3, d4] => { results := [.lit (.bool true)], args := [d1, d2, d3, d4] }
  | _ => none }
def fnExactRepairWithRow : OpenClaim := { program := "ytabdpdnofljkcaa", sum := "30382239e7013970622ff40a96133cca39ee9ebe2699d0b2d33245c803899ca2", func := "loop.example/g01307/laws.FnExactRepairWith", spec := "fnExactRepairWith", unfollowed := true, recurses := true, plainKeys := false, apart := false }
def FnExactRepairWithSaid : Prop := fnExactRepairWithRow.holds Try.pinned (OpenSpec.ofChange fnExactRepairWithSpec)

/-- ITS FALSE NEIGHBOUR: 'it returns false'. Refute it at one input. -/
def fnExactRepairWithWrong : ChangeSpec := { name := "fnExactRepairWith", fn := fun _ => fun
  | [d1, d2, d3, d4] => { results := [.lit (.bool false)], args := [d1, d2, d3, d4] }
  | _ => none }
def FnExactRepairWithWrongFalsely : Prop := fnExactRepairWithRow.holds Try.pinned (OpenSpec.ofChange fnExactRepairWithWrong)

/- THE SECOND FORM. 'bulk': how many values and letters a reading holds, each counted each time it is reached (what is shared counts as often as it is met; a slice's spare places count too). A statement '..UptoSaid' is the law's where the arguments, and the package variables that the reading takes, are together of bulk at most 1048576: NARROWER than '..Said'. Prove '..Said' where nothing that the law and all that it calls make is longer than what came in: it says more and counts as full. Else prove '..UptoSaid'. A law counts once. -/
mutual
def uptoBulk {H : Type} : DataW H → Nat
  | .lit (.string bytes) => bytes.length + 1
  | .lit _ => 1
  | .nil => 1
  | .ptr d => uptoBulk d + 1
  | .slice elems spare => uptoBulkAll elems + uptoBulkAll spare + 1
  | .agg parts => uptoBulkAll parts + 1
  | .iface _ d => uptoBulk d + 1
  | .map entries => uptoBulkEntries entries + 1
  | .held _ => 1
def uptoBulkAll {H : Type} : List (DataW H) → Nat
  | [] => 0
  | d :: r => uptoBulk d + uptoBulkAll r
def uptoBulkEntries {H : Type} : List (Lit × DataW H) → Nat
  | [] => 0
  | x :: r => uptoBulkEntry x + uptoBulkEntries r
def uptoBulkEntry {H : Type} : Lit × DataW H → Nat
  | (.string bytes, d) => bytes.length + uptoBulk d + 1
  | (_, d) => uptoBulk d + 1
 end
def uptoSmall : (H : Type) → List (DataW H) → Bool := fun _ ds => decide (uptoBulkAll ds ≤ 1048576)
def OpenSpec.upto (s : _root_.Go.ChangeSpec) : _root_.Go.OpenSpec := { _root_.Go.OpenSpec.ofChange s with cond := some uptoSmall }

/-- 'laws.FnExactWeightsIn', WHERE WHAT IT READS IS OF BULK AT MOST 1048576: true; the input reads as it did. -/
def fnExactWeightsInUptoRow : OpenClaim := { program := "ytabdpdnofljkcaa", sum := "30382239e7013970622ff40a96133cca39ee9ebe2699d0b2d33245c803899ca2", func := "loop.example/g01307/laws.FnExactWeightsIn", spec := "fnExactWeightsIn", unfollowed := true, recurses := true, plainKeys := false, apart := false, narrowed := true }
def FnExactWeightsInUptoSaid : Prop := fnExactWeightsInUptoRow.holds Try.pinned (OpenSpec.upto fnExactWeightsInSpec)

/-- 'laws.FnExactGreedyCode', WHERE WHAT IT READS IS OF BULK AT MOST 1048576: true; the input reads as it did. -/
def fnExactGreedyCodeUptoRow : OpenClaim := { program := "ytabdpdnofljkcaa", sum := "30382239e7013970622ff40a96133cca39ee9ebe2699d0b2d33245c803899ca2", func := "loop.example/g01307/laws.FnExactGreedyCode", spec := "fnExactGreedyCode", unfollowed := true, recurses := true, plainKeys := false, apart := false, narrowed := true }
def FnExactGreedyCodeUptoSaid : Prop := fnExactGreedyCodeUptoRow.holds Try.pinned (OpenSpec.upto fnExactGreedyCodeSpec)

/-- 'laws.FnExactLeastApartOf', WHERE WHAT IT READS IS OF BULK AT MOST 1048576: true; the input reads as it did. -/
def fnExactLeastApartOfUptoRow : OpenClaim := { program := "ytabdpdnofljkcaa", sum := "30382239e7013970622ff40a96133cca39ee9ebe2699d0b2d33245c803899ca2", func := "loop.example/g01307/laws.FnExactLeastApartOf", spec := "fnExactLeastApartOf", unfollowed := true, recurses := true, plainKeys := false, apart := false, narrowed := true }
def FnExactLeastApartOfUptoSaid : Prop := fnExactLeastApartOfUptoRow.holds Try.pinned (OpenSpec.upto fnExactLeastApartOfSpec)

/-- 'laws.FnExactNearestOf', WHERE WHAT IT READS IS OF BULK AT MOST 1048576: true; the input reads as it did. -/
def fnExactNearestOfUptoRow : OpenClaim := { program := "ytabdpdnofljkcaa", sum := "30382239e7013970622ff40a96133cca39ee9ebe2699d0b2d33245c803899ca2", func := "loop.example/g01307/laws.FnExactNearestOf", spec := "fnExactNearestOf", unfollowed := true, recurses := true, plainKeys := false, apart := false, narrowed := true }
def FnExactNearestOfUptoSaid : Prop := fnExactNearestOfUptoRow.holds Try.pinned (OpenSpec.upto fnExactNearestOfSpec)

/-- 'laws.FnExactClosedUnderSums', WHERE WHAT IT READS IS OF BULK AT MOST 1048576: true; the input reads as it did. -/
def fnExactClosedUnderSumsUptoRow : OpenClaim := { program := "ytabdpdnofljkcaa", sum := "30382239e7013970622ff40a96133cca39ee9ebe2699d0b2d33245c803899ca2", func := "loop.example/g01307/laws.FnExactClosedUnderSums", spec := "fnExactClosedUnderSums", unfollowed := true, recurses := true, plainKeys := false, apart := false, narrowed := true }
def FnExactClosedUnderSumsUptoSaid : Prop := fnExactClosedUnderSumsUptoRow.holds Try.pinned (OpenSpec.upto fnExactClosedUnderSumsSpec)

/-- 'laws.FnExactRepairWith', WHERE WHAT IT READS IS OF BULK AT MOST 1048576: true; the input reads as it did. -/
def fnExactRepairWithUptoRow : OpenClaim := { program := "ytabdpdnofljkcaa", sum := "30382239e7013970622ff40a96133cca39ee9ebe2699d0b2d33245c803899ca2", func := "loop.example/g01307/laws.FnExactRepairWith", spec := "fnExactRepairWith", unfollowed := true, recurses := true, plainKeys := false, apart := false, narrowed := true }
def FnExactRepairWithUptoSaid : Prop := fnExactRepairWithUptoRow.holds Try.pinned (OpenSpec.upto fnExactRepairWithSpec)

end Rows
end Go.Proofs.Ytabdpdnofljkcaa

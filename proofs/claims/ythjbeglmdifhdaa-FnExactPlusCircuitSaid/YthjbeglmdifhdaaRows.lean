/-
  No cell of these rows narrows 'for every input' (looked for: loops, veiled, ifaces, maps, wideKeys, modest, calm, conditions, laid).
  DERIVED. THE GIVEN ROWS OF THIS SEAT. 8 by the template 'for every input the law returns true; each argument reads behind the call as it read before'; 0 by the template 'total and deterministic' (their statements: YthjbeglmdifhdaaTotals.lean).
  GIVEN WITH THE SEED: the statements are not yours to turn. If you find one false, say at which input.
  Laid BY PROGRAM, IN A SANDBOX (cutbox-rows.mjs): the forced cells as the released guide's own fill.sh prints them over the translation 5bce300372f909bb… (all of the seat's roots in one cut). By AI agents, Wed Nov 11 2026. No macro, syntax, notation, axiom, sorry.
-/
import Derived.Test.YthjbeglmdifhdaaChecked
import GoSem.Claim
import GoSem.ClaimJoined
import GoSem.ClaimMapViews
import Derived.JoinedTies
import Derived.KernelRfl
namespace Go.Proofs.Ythjbeglmdifhdaa
/- THE CELL 'sum', in the pinned program and in every row, IS THE sha256 OF THE DUMP (.gsa) THAT YthjbeglmdifhdaaProg.lean LOADS. Nothing in Lean hashes anything: it is a label: what it is worth is what the hold of that sum in a sandbox is worth. -/
noncomputable def Try.pinned : Pinned := { name := "ythjbeglmdifhdaa", sum := "5bce300372f909bb53f47086a97dcb221e75f27b76d01064a993d08c436a2543", checked := Try.checked }
namespace Rows
def none {H : Type} : Left H := { results := [], args := [] }

/-- 'laws.FnExactPowersMatrix': WHATEVER THE INPUT: true; the input reads as it did. -/
def fnExactPowersMatrixSpec : ChangeSpec := { name := "fnExactPowersMatrix", fn := fun _ => fun
  | [d1, d2] => { results := [.lit (.bool true)], args := [d1, d2] }
  | _ => none }
def fnExactPowersMatrixRow : OpenClaim := { program := "ythjbeglmdifhdaa", sum := "5bce300372f909bb53f47086a97dcb221e75f27b76d01064a993d08c436a2543", func := "loop.example/g01307/laws.FnExactPowersMatrix", spec := "fnExactPowersMatrix", recurses := true, apart := false }
def FnExactPowersMatrixSaid : Prop := fnExactPowersMatrixRow.holds Try.pinned (OpenSpec.ofChange fnExactPowersMatrixSpec)

/-- ITS FALSE NEIGHBOUR: 'it returns false'. Refute it at one input. -/
def fnExactPowersMatrixWrong : ChangeSpec := { name := "fnExactPowersMatrix", fn := fun _ => fun
  | [d1, d2] => { results := [.lit (.bool false)], args := [d1, d2] }
  | _ => none }
def FnExactPowersMatrixWrongFalsely : Prop := fnExactPowersMatrixRow.holds Try.pinned (OpenSpec.ofChange fnExactPowersMatrixWrong)

/-- 'laws.FnExactScaleMatrix': WHATEVER THE INPUT: true; the input reads as it did. -/
def fnExactScaleMatrixSpec : ChangeSpec := { name := "fnExactScaleMatrix", fn := fun _ => fun
  | [d1, d2] => { results := [.lit (.bool true)], args := [d1, d2] }
  | _ => none }
def fnExactScaleMatrixRow : OpenClaim := { program := "ythjbeglmdifhdaa", sum := "5bce300372f909bb53f47086a97dcb221e75f27b76d01064a993d08c436a2543", func := "loop.example/g01307/laws.FnExactScaleMatrix", spec := "fnExactScaleMatrix", recurses := true, apart := false }
def FnExactScaleMatrixSaid : Prop := fnExactScaleMatrixRow.holds Try.pinned (OpenSpec.ofChange fnExactScaleMatrixSpec)

/-- ITS FALSE NEIGHBOUR: 'it returns false'. Refute it at one input. -/
def fnExactScaleMatrixWrong : ChangeSpec := { name := "fnExactScaleMatrix", fn := fun _ => fun
  | [d1, d2] => { results := [.lit (.bool false)], args := [d1, d2] }
  | _ => none }
def FnExactScaleMatrixWrongFalsely : Prop := fnExactScaleMatrixRow.holds Try.pinned (OpenSpec.ofChange fnExactScaleMatrixWrong)

/-- 'laws.FnExactCheckSolution': WHATEVER THE INPUT: true; the input reads as it did. -/
def fnExactCheckSolutionSpec : ChangeSpec := { name := "fnExactCheckSolution", fn := fun _ => fun
  | [d1, d2, d3] => { results := [.lit (.bool true)], args := [d1, d2, d3] }
  | _ => none }
def fnExactCheckSolutionRow : OpenClaim := { program := "ythjbeglmdifhdaa", sum := "5bce300372f909bb53f47086a97dcb221e75f27b76d01064a993d08c436a2543", func := "loop.example/g01307/laws.FnExactCheckSolution", spec := "fnExactCheckSolution", recurses := true, apart := false }
def FnExactCheckSolutionSaid : Prop := fnExactCheckSolutionRow.holds Try.pinned (OpenSpec.ofChange fnExactCheckSolutionSpec)

/-- ITS FALSE NEIGHBOUR: 'it returns false'. Refute it at one input. -/
def fnExactCheckSolutionWrong : ChangeSpec := { name := "fnExactCheckSolution", fn := fun _ => fun
  | [d1, d2, d3] => { results := [.lit (.bool false)], args := [d1, d2, d3] }
  | _ => none }
def FnExactCheckSolutionWrongFalsely : Prop := fnExactCheckSolutionRow.holds Try.pinned (OpenSpec.ofChange fnExactCheckSolutionWrong)

/-- 'laws.FnExactApplyMatrix': WHATEVER THE INPUT: true; the input reads as it did. -/
def fnExactApplyMatrixSpec : ChangeSpec := { name := "fnExactApplyMatrix", fn := fun _ => fun
  | [d1, d2] => { results := [.lit (.bool true)], args := [d1, d2] }
  | _ => none }
def fnExactApplyMatrixRow : OpenClaim := { program := "ythjbeglmdifhdaa", sum := "5bce300372f909bb53f47086a97dcb221e75f27b76d01064a993d08c436a2543", func := "loop.example/g01307/laws.FnExactApplyMatrix", spec := "fnExactApplyMatrix", recurses := true, apart := false }
def FnExactApplyMatrixSaid : Prop := fnExactApplyMatrixRow.holds Try.pinned (OpenSpec.ofChange fnExactApplyMatrixSpec)

/-- ITS FALSE NEIGHBOUR: 'it returns false'. Refute it at one input. -/
def fnExactApplyMatrixWrong : ChangeSpec := { name := "fnExactApplyMatrix", fn := fun _ => fun
  | [d1, d2] => { results := [.lit (.bool false)], args := [d1, d2] }
  | _ => none }
def FnExactApplyMatrixWrongFalsely : Prop := fnExactApplyMatrixRow.holds Try.pinned (OpenSpec.ofChange fnExactApplyMatrixWrong)

/-- 'laws.FnExactTimesMatrix': WHATEVER THE INPUT: true; the input reads as it did. -/
def fnExactTimesMatrixSpec : ChangeSpec := { name := "fnExactTimesMatrix", fn := fun _ => fun
  | [d1, d2] => { results := [.lit (.bool true)], args := [d1, d2] }
  | _ => none }
def fnExactTimesMatrixRow : OpenClaim := { program := "ythjbeglmdifhdaa", sum := "5bce300372f909bb53f47086a97dcb221e75f27b76d01064a993d08c436a2543", func := "loop.example/g01307/laws.FnExactTimesMatrix", spec := "fnExactTimesMatrix", recurses := true, apart := false }
def FnExactTimesMatrixSaid : Prop := fnExactTimesMatrixRow.holds Try.pinned (OpenSpec.ofChange fnExactTimesMatrixSpec)

/-- ITS FALSE NEIGHBOUR: 'it returns false'. Refute it at one input. -/
def fnExactTimesMatrixWrong : ChangeSpec := { name := "fnExactTimesMatrix", fn := fun _ => fun
  | [d1, d2] => { results := [.lit (.bool false)], args := [d1, d2] }
  | _ => none }
def FnExactTimesMatrixWrongFalsely : Prop := fnExactTimesMatrixRow.holds Try.pinned (OpenSpec.ofChange fnExactTimesMatrixWrong)

/-- 'laws.FnExactSameCircuit': WHATEVER THE INPUT: true; the input reads as it did. -/
def fnExactSameCircuitSpec : ChangeSpec := { name := "fnExactSameCircuit", fn := fun _ => fun
  | [d1, d2] => { results := [.lit (.bool true)], args := [d1, d2] }
  | _ => none }
def fnExactSameCircuitRow : OpenClaim := { program := "ythjbeglmdifhdaa", sum := "5bce300372f909bb53f47086a97dcb221e75f27b76d01064a993d08c436a2543", func := "loop.example/g01307/laws.FnExactSameCircuit", spec := "fnExactSameCircuit", apart := false }
def FnExactSameCircuitSaid : Prop := fnExactSameCircuitRow.holds Try.pinned (OpenSpec.ofChange fnExactSameCircuitSpec)

/-- ITS FALSE NEIGHBOUR: 'it returns false'. Refute it at one input. -/
def fnExactSameCircuitWrong : ChangeSpec := { name := "fnExactSameCircuit", fn := fun _ => fun
  | [d1, d2] => { results := [.lit (.bool false)], args := [d1, d2] }
  | _ => none }
def FnExactSameCircuitWrongFalsely : Prop := fnExactSameCircuitRow.holds Try.pinned (OpenSpec.ofChange fnExactSameCircuitWrong)

/-- 'laws.FnExactValidCircuit': WHATEVER THE INPUT: true; the input reads as it did. -/
def fnExactValidCircuitSpec : ChangeSpec := { name := "fnExactValidCircuit", fn := fun _ => fun
  | [d] => { results := [.lit (.bool true)], args := [d] }
  | _ => none }
def fnExactValidCircuitRow : OpenClaim := { program := "ythjbeglmdifhdaa", sum := "5bce300372f909bb53f47086a97dcb221e75f27b76d01064a993d08c436a2543", func := "loop.example/g01307/laws.FnExactValidCircuit", spec := "fnExactValidCircuit", unfollowed := true, recurses := true, apart := false }
def FnExactValidCircuitSaid : Prop := fnExactValidCircuitRow.holds Try.pinned (OpenSpec.ofChange fnExactValidCircuitSpec)

/-- ITS FALSE NEIGHBOUR: 'it returns false'. Refute it at one input. -/
def fnExactValidCircuitWrong : ChangeSpec := { name := "fnExactValidCircuit", fn := fun _ => fun
  | [d] => { results := [.lit (.bool false)], args := [d] }
  | _ => none }
def FnExactValidCircuitWrongFalsely : Prop := fnExactValidCircuitRow.holds Try.pinned (OpenSpec.ofChange fnExactValidCircuitWrong)

/-- 'laws.FnExactPlusCircuit': WHATEVER THE INPUT: true; the input reads as it did. -/
def fnExactPlusCircuitSpec : ChangeSpec := { name := "fnExactPlusCircuit", fn := fun _ => fun
  | [d] => { results := [.lit (.bool true)], args := [d] }
  | _ => none }
def fnExactPlusCircuitRow : OpenClaim := { program := "ythjbeglmdifhdaa", sum := "5bce300372f909bb53f47086a97dcb221e75f27b76d01064a993d08c436a2543", func := "loop.example/g01307/laws.FnExactPlusCircuit", spec := "fnExactPlusCircuit", unfollowed := true, recurses := true, apart := false }
def FnExactPlusCircuitSaid : Prop := fnExactPlusCircuitRow.holds Try.pinned (OpenSpec.ofChange fnExactPlusCircuitSpec)

/-- ITS FALSE NEIGHBOUR: 'it returns false'. Refute it at one input. -/
def fnExactPlusCircuitWrong : ChangeSpec := { name := "fnExactPlusCircuit", fn := fun _ => fun
  | [d] => { results := [.lit (.bool false)], args := [d] }
  | _ => none }
def FnExactPlusCircuitWrongFalsely : Prop := fnExactPlusCircuitRow.holds Try.pinned (OpenSpec.ofChange fnExactPlusCircuitWrong)

/- THE SECOND FORM. 'bulk': how many values and letters a reading holds, each counted each time it is reached (what is shared counts as often as it is met; a slice's spare places count too). A statement '..UptoSaid' is the law's where the arguments, and the package variables that the reading takes, are together of bulk at most 1048576: NARROWER than '..Said'. Prove '..Said' where nothing that the law and all that it calls make is longer than what came in: it says more and counts as full. Else prove '..UptoSaid'. A law counts once. -/
mutual
def uptoBulk {H : Type} : DataW H → Nat
  | .lit (.string bytes) => bytes.length + 1
  | .lit _ => 1
  | .nil => 1
  | .ptr d => uptoBulk d + 1
  | .slice elems spare => uptoBulkAll elems + uptoBulkAll spare + 1
  | .agg parts => uptoBulkAll parts + 1
  | .iface _ d => uptoBulk d + 1
  | .map entries => uptoBulkEntries entries + 1
  | .held _ => 1
def uptoBulkAll {H : Type} : List (DataW H) → Nat
  | [] => 0
  | d :: r => uptoBulk d + uptoBulkAll r
def uptoBulkEntries {H : Type} : List (Lit × DataW H) → Nat
  | [] => 0
  | x :: r => uptoBulkEntry x + uptoBulkEntries r
def uptoBulkEntry {H : Type} : Lit × DataW H → Nat
  | (.string bytes, d) => bytes.length + uptoBulk d + 1
  | (_, d) => uptoBulk d + 1
 end
def uptoSmall : (H : Type) → List (DataW H) → Bool := fun _ ds => decide (uptoBulkAll ds ≤ 1048576)
def OpenSpec.upto (s : _root_.Go.ChangeSpec) : _root_.Go.OpenSpec := { _root_.Go.OpenSpec.ofChange s with cond := some uptoSmall }

/-- 'laws.FnExactPowersMatrix', WHERE WHAT IT READS IS OF BULK AT MOST 1048576: true; the input reads as it did. -/
def fnExactPowersMatrixUptoRow : OpenClaim := { program := "ythjbeglmdifhdaa", sum := "5bce300372f909bb53f47086a97dcb221e75f27b76d01064a993d08c436a2543", func := "loop.example/g01307/laws.FnExactPowersMatrix", spec := "fnExactPowersMatrix", recurses := true, apart := false, narrowed := true }
def FnExactPowersMatrixUptoSaid : Prop := fnExactPowersMatrixUptoRow.holds Try.pinned (OpenSpec.upto fnExactPowersMatrixSpec)

/-- 'laws.FnExactScaleMatrix', WHERE WHAT IT READS IS OF BULK AT MOST 1048576: true; the input reads as it did. -/
def fnExactScaleMatrixUptoRow : OpenClaim := { program := "ythjbeglmdifhdaa", sum := "5bce300372f909bb53f47086a97dcb221e75f27b76d01064a993d08c436a2543", func := "loop.example/g01307/laws.FnExactScaleMatrix", spec := "fnExactScaleMatrix", recurses := true, apart := false, narrowed := true }
def FnExactScaleMatrixUptoSaid : Prop := fnExactScaleMatrixUptoRow.holds Try.pinned (OpenSpec.upto fnExactScaleMatrixSpec)

/-- 'laws.FnExactCheckSolution', WHERE WHAT IT READS IS OF BULK AT MOST 1048576: true; the input reads as it did. -/
def fnExactCheckSolutionUptoRow : OpenClaim := { program := "ythjbeglmdifhdaa", sum := "5bce300372f909bb53f47086a97dcb221e75f27b76d01064a993d08c436a2543", func := "loop.example/g01307/laws.FnExactCheckSolution", spec := "fnExactCheckSolution", recurses := true, apart := false, narrowed := true }
def FnExactCheckSolutionUptoSaid : Prop := fnExactCheckSolutionUptoRow.holds Try.pinned (OpenSpec.upto fnExactCheckSolutionSpec)

/-- 'laws.FnExactApplyMatrix', WHERE WHAT IT READS IS OF BULK AT MOST 1048576: true; the input reads as it did. -/
def fnExactApplyMatrixUptoRow : OpenClaim := { program := "ythjbeglmdifhdaa", sum := "5bce300372f909bb53f47086a97dcb221e75f27b76d01064a993d08c436a2543", func := "loop.example/g01307/laws.FnExactApplyMatrix", spec := "fnExactApplyMatrix", recurses := true, apart := false, narrowed := true }
def FnExactApplyMatrixUptoSaid : Prop := fnExactApplyMatrixUptoRow.holds Try.pinned (OpenSpec.upto fnExactApplyMatrixSpec)

/-- 'laws.FnExactTimesMatrix', WHERE WHAT IT READS IS OF BULK AT MOST 1048576: true; the input reads as it did. -/
def fnExactTimesMatrixUptoRow : OpenClaim := { program := "ythjbeglmdifhdaa", sum := "5bce300372f909bb53f47086a97dcb221e75f27b76d01064a993d08c436a2543", func := "loop.example/g01307/laws.FnExactTimesMatrix", spec := "fnExactTimesMatrix", recurses := true, apart := false, narrowed := true }
def FnExactTimesMatrixUptoSaid : Prop := fnExactTimesMatrixUptoRow.holds Try.pinned (OpenSpec.upto fnExactTimesMatrixSpec)

/-- 'laws.FnExactSameCircuit', WHERE WHAT IT READS IS OF BULK AT MOST 1048576: true; the input reads as it did. -/
def fnExactSameCircuitUptoRow : OpenClaim := { program := "ythjbeglmdifhdaa", sum := "5bce300372f909bb53f47086a97dcb221e75f27b76d01064a993d08c436a2543", func := "loop.example/g01307/laws.FnExactSameCircuit", spec := "fnExactSameCircuit", apart := false, narrowed := true }
def FnExactSameCircuitUptoSaid : Prop := fnExactSameCircuitUptoRow.holds Try.pinned (OpenSpec.upto fnExactSameCircuitSpec)

/-- 'laws.FnExactValidCircuit', WHERE WHAT IT READS IS OF BULK AT MOST 1048576: true; the input reads as it did. -/
def fnExactValidCircuitUptoRow : OpenClaim := { program := "ythjbeglmdifhdaa", sum := "5bce300372f909bb53f47086a97dcb221e75f27b76d01064a993d08c436a2543", func := "loop.example/g01307/laws.FnExactValidCircuit", spec := "fnExactValidCircuit", unfollowed := true, recurses := true, apart := false, narrowed := true }
def FnExactValidCircuitUptoSaid : Prop := fnExactValidCircuitUptoRow.holds Try.pinned (OpenSpec.upto fnExactValidCircuitSpec)

/-- 'laws.FnExactPlusCircuit', WHERE WHAT IT READS IS OF BULK AT MOST 1048576: true; the input reads as it did. -/
def fnExactPlusCircuitUptoRow : OpenClaim := { program := "ythjbeglmdifhdaa", sum := "5bce300372f909bb53f47086a97dcb221e75f27b76d01064a993d08c436a2543", func := "loop.example/g01307/laws.FnExactPlusCircuit", spec := "fnExactPlusCircuit", unfollowed := true, recurses := true, apart := false, narrowed := true }
def FnExactPlusCircuitUptoSaid : Prop := fnExactPlusCircuitUptoRow.holds Try.pinned (OpenSpec.upto fnExactPlusCircuitSpec)

end Rows
end Go.Proofs.Ythjbeglmdifhdaa

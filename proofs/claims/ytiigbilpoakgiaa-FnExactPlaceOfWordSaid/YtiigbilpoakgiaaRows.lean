/-
  No cell of these rows narrows 'for every input' (looked for: loops, veiled, ifaces, maps, wideKeys, modest, calm, conditions, laid).
  DERIVED. THE GIVEN ROWS OF THIS SEAT. 12 by the template 'for every input the law returns true; each argument reads behind the call as it read before'; 0 by the template 'total and deterministic' (their statements: YtiigbilpoakgiaaTotals.lean).
  GIVEN WITH THE SEED: the statements are not yours to turn. If you find one false, say at which input.
  Laid BY PROGRAM, IN A SANDBOX (cutbox-rows.mjs): the forced cells as the released guide's own fill.sh prints them over the translation 3b387f1fe58b988d… (all of the seat's roots in one cut). By AI agents, Wed Nov 11 2026. No macro, syntax, notation, axiom, sorry.
-/
import Derived.Test.YtiigbilpoakgiaaChecked
import GoSem.Claim
import GoSem.ClaimJoined
import GoSem.ClaimMapViews
import Derived.JoinedTies
import Derived.KernelRfl
namespace Go.Proofs.Ytiigbilpoakgiaa
/- THE CELL 'sum', in the pinned program and in every row, IS THE sha256 OF THE DUMP (.gsa) THAT YtiigbilpoakgiaaProg.lean LOADS. Nothing in Lean hashes anything: it is a label: what it is worth is what the hold of that sum in a sandbox is worth. -/
noncomputable def Try.pinned : Pinned := { name := "ytiigbilpoakgiaa", sum := "3b387f1fe58b988db02d9e075e5d634d5171ea4988282de20910ca758d3afb8d", checked := Try.checked }
namespace Rows
def none {H : Type} : Left H := { results := [], args := [] }

/-- 'laws.FnExactValidPoly': WHATEVER THE INPUT: true; the input reads as it did. -/
def fnExactValidPolySpec : ChangeSpec := { name := "fnExactValidPoly", fn := fun _ => fun
  | [d] => { results := [.lit (.bool true)], args := [d] }
  | _ => none }
def fnExactValidPolyRow : OpenClaim := { program := "ytiigbilpoakgiaa", sum := "3b387f1fe58b988db02d9e075e5d634d5171ea4988282de20910ca758d3afb8d", func := "loop.example/g01307/laws.FnExactValidPoly", spec := "fnExactValidPoly", apart := false }
def FnExactValidPolySaid : Prop := fnExactValidPolyRow.holds Try.pinned (OpenSpec.ofChange fnExactValidPolySpec)

/-- ITS FALSE NEIGHBOUR: 'it returns false'. Refute it at one input. -/
def fnExactValidPolyWrong : ChangeSpec := { name := "fnExactValidPoly", fn := fun _ => fun
  | [d] => { results := [.lit (.bool false)], args := [d] }
  | _ => none }
def FnExactValidPolyWrongFalsely : Prop := fnExactValidPolyRow.holds Try.pinned (OpenSpec.ofChange fnExactValidPolyWrong)

/-- 'laws.FnExactWeightOf': WHATEVER THE INPUT: true; the input reads as it did. -/
def fnExactWeightOfSpec : ChangeSpec := { name := "fnExactWeightOf", fn := fun _ => fun
  | [d] => { results := [.lit (.bool true)], args := [d] }
  | _ => none }
def fnExactWeightOfRow : OpenClaim := { program := "ytiigbilpoakgiaa", sum := "3b387f1fe58b988db02d9e075e5d634d5171ea4988282de20910ca758d3afb8d", func := "loop.example/g01307/laws.FnExactWeightOf", spec := "fnExactWeightOf", apart := false }
def FnExactWeightOfSaid : Prop := fnExactWeightOfRow.holds Try.pinned (OpenSpec.ofChange fnExactWeightOfSpec)

/-- ITS FALSE NEIGHBOUR: 'it returns false'. Refute it at one input. -/
def fnExactWeightOfWrong : ChangeSpec := { name := "fnExactWeightOf", fn := fun _ => fun
  | [d] => { results := [.lit (.bool false)], args := [d] }
  | _ => none }
def FnExactWeightOfWrongFalsely : Prop := fnExactWeightOfRow.holds Try.pinned (OpenSpec.ofChange fnExactWeightOfWrong)

/-- 'laws.FnExactDegreeOf': WHATEVER THE INPUT: true; the input reads as it did. -/
def fnExactDegreeOfSpec : ChangeSpec := { name := "fnExactDegreeOf", fn := fun _ => fun
  | [d] => { results := [.lit (.bool true)], args := [d] }
  | _ => none }
def fnExactDegreeOfRow : OpenClaim := { program := "ytiigbilpoakgiaa", sum := "3b387f1fe58b988db02d9e075e5d634d5171ea4988282de20910ca758d3afb8d", func := "loop.example/g01307/laws.FnExactDegreeOf", spec := "fnExactDegreeOf", apart := false }
def FnExactDegreeOfSaid : Prop := fnExactDegreeOfRow.holds Try.pinned (OpenSpec.ofChange fnExactDegreeOfSpec)

/-- ITS FALSE NEIGHBOUR: 'it returns false'. Refute it at one input. -/
def fnExactDegreeOfWrong : ChangeSpec := { name := "fnExactDegreeOf", fn := fun _ => fun
  | [d] => { results := [.lit (.bool false)], args := [d] }
  | _ => none }
def FnExactDegreeOfWrongFalsely : Prop := fnExactDegreeOfRow.holds Try.pinned (OpenSpec.ofChange fnExactDegreeOfWrong)

/-- 'laws.FnExactSamePoly': WHATEVER THE INPUT: true; the input reads as it did. -/
def fnExactSamePolySpec : ChangeSpec := { name := "fnExactSamePoly", fn := fun _ => fun
  | [d1, d2] => { results := [.lit (.bool true)], args := [d1, d2] }
  | _ => none }
def fnExactSamePolyRow : OpenClaim := { program := "ytiigbilpoakgiaa", sum := "3b387f1fe58b988db02d9e075e5d634d5171ea4988282de20910ca758d3afb8d", func := "loop.example/g01307/laws.FnExactSamePoly", spec := "fnExactSamePoly", apart := false }
def FnExactSamePolySaid : Prop := fnExactSamePolyRow.holds Try.pinned (OpenSpec.ofChange fnExactSamePolySpec)

/-- ITS FALSE NEIGHBOUR: 'it returns false'. Refute it at one input. -/
def fnExactSamePolyWrong : ChangeSpec := { name := "fnExactSamePoly", fn := fun _ => fun
  | [d1, d2] => { results := [.lit (.bool false)], args := [d1, d2] }
  | _ => none }
def FnExactSamePolyWrongFalsely : Prop := fnExactSamePolyRow.holds Try.pinned (OpenSpec.ofChange fnExactSamePolyWrong)

/-- 'laws.FnExactSameWord': WHATEVER THE INPUT: true; the input reads as it did. -/
def fnExactSameWordSpec : ChangeSpec := { name := "fnExactSameWord", fn := fun _ => fun
  | [d1, d2] => { results := [.lit (.bool true)], args := [d1, d2] }
  | _ => none }
def fnExactSameWordRow : OpenClaim := { program := "ytiigbilpoakgiaa", sum := "3b387f1fe58b988db02d9e075e5d634d5171ea4988282de20910ca758d3afb8d", func := "loop.example/g01307/laws.FnExactSameWord", spec := "fnExactSameWord", apart := false }
def FnExactSameWordSaid : Prop := fnExactSameWordRow.holds Try.pinned (OpenSpec.ofChange fnExactSameWordSpec)

/-- ITS FALSE NEIGHBOUR: 'it returns false'. Refute it at one input. -/
def fnExactSameWordWrong : ChangeSpec := { name := "fnExactSameWord", fn := fun _ => fun
  | [d1, d2] => { results := [.lit (.bool false)], args := [d1, d2] }
  | _ => none }
def FnExactSameWordWrongFalsely : Prop := fnExactSameWordRow.holds Try.pinned (OpenSpec.ofChange fnExactSameWordWrong)

/-- 'laws.FnExactValidWord': WHATEVER THE INPUT: true; the input reads as it did. -/
def fnExactValidWordSpec : ChangeSpec := { name := "fnExactValidWord", fn := fun _ => fun
  | [d1, d2] => { results := [.lit (.bool true)], args := [d1, d2] }
  | _ => none }
def fnExactValidWordRow : OpenClaim := { program := "ytiigbilpoakgiaa", sum := "3b387f1fe58b988db02d9e075e5d634d5171ea4988282de20910ca758d3afb8d", func := "loop.example/g01307/laws.FnExactValidWord", spec := "fnExactValidWord", unfollowed := true, recurses := true, apart := false }
def FnExactValidWordSaid : Prop := fnExactValidWordRow.holds Try.pinned (OpenSpec.ofChange fnExactValidWordSpec)

/-- ITS FALSE NEIGHBOUR: 'it returns false'. Refute it at one input. -/
def fnExactValidWordWrong : ChangeSpec := { name := "fnExactValidWord", fn := fun _ => fun
  | [d1, d2] => { results := [.lit (.bool false)], args := [d1, d2] }
  | _ => none }
def FnExactValidWordWrongFalsely : Prop := fnExactValidWordRow.holds Try.pinned (OpenSpec.ofChange fnExactValidWordWrong)

/-- 'laws.FnExactPlaceOfWord': WHATEVER THE INPUT: true; the input reads as it did. -/
def fnExactPlaceOfWordSpec : ChangeSpec := { name := "fnExactPlaceOfWord", fn := fun _ => fun
  | [d1, d2] => { results := [.lit (.bool true)], args := [d1, d2] }
  | _ => none }
def fnExactPlaceOfWordRow : OpenClaim := { program := "ytiigbilpoakgiaa", sum := "3b387f1fe58b988db02d9e075e5d634d5171ea4988282de20910ca758d3afb8d", func := "loop.example/g01307/laws.FnExactPlaceOfWord", spec := "fnExactPlaceOfWord", unfollowed := true, recurses := true, apart := false }
def FnExactPlaceOfWordSaid : Prop := fnExactPlaceOfWordRow.holds Try.pinned (OpenSpec.ofChange fnExactPlaceOfWordSpec)

/-- ITS FALSE NEIGHBOUR: 'it returns false'. Refute it at one input. -/
def fnExactPlaceOfWordWrong : ChangeSpec := { name := "fnExactPlaceOfWord", fn := fun _ => fun
  | [d1, d2] => { results := [.lit (.bool false)], args := [d1, d2] }
  | _ => none }
def FnExactPlaceOfWordWrongFalsely : Prop := fnExactPlaceOfWordRow.holds Try.pinned (OpenSpec.ofChange fnExactPlaceOfWordWrong)

/-- 'laws.FnExactWordAtPlace': WHATEVER THE INPUT: true; the input reads as it did. -/
def fnExactWordAtPlaceSpec : ChangeSpec := { name := "fnExactWordAtPlace", fn := fun _ => fun
  | [d1, d2, d3] => { results := [.lit (.bool true)], args := [d1, d2, d3] }
  | _ => none }
def fnExactWordAtPlaceRow : OpenClaim := { program := "ytiigbilpoakgiaa", sum := "3b387f1fe58b988db02d9e075e5d634d5171ea4988282de20910ca758d3afb8d", func := "loop.example/g01307/laws.FnExactWordAtPlace", spec := "fnExactWordAtPlace", apart := false }
def FnExactWordAtPlaceSaid : Prop := fnExactWordAtPlaceRow.holds Try.pinned (OpenSpec.ofChange fnExactWordAtPlaceSpec)

/-- ITS FALSE NEIGHBOUR: 'it returns false'. Refute it at one input. -/
def fnExactWordAtPlaceWrong : ChangeSpec := { name := "fnExactWordAtPlace", fn := fun _ => fun
  | [d1, d2, d3] => { results := [.lit (.bool false)], args := [d1, d2, d3] }
  | _ => none }
def FnExactWordAtPlaceWrongFalsely : Prop := fnExactWordAtPlaceRow.holds Try.pinned (OpenSpec.ofChange fnExactWordAtPlaceWrong)

/-- 'laws.FnExactApartOf': WHATEVER THE INPUT: true; the input reads as it did. -/
def fnExactApartOfSpec : ChangeSpec := { name := "fnExactApartOf", fn := fun _ => fun
  | [d1, d2] => { results := [.lit (.bool true)], args := [d1, d2] }
  | _ => none }
def fnExactApartOfRow : OpenClaim := { program := "ytiigbilpoakgiaa", sum := "3b387f1fe58b988db02d9e075e5d634d5171ea4988282de20910ca758d3afb8d", func := "loop.example/g01307/laws.FnExactApartOf", spec := "fnExactApartOf", apart := false }
def FnExactApartOfSaid : Prop := fnExactApartOfRow.holds Try.pinned (OpenSpec.ofChange fnExactApartOfSpec)

/-- ITS FALSE NEIGHBOUR: 'it returns false'. Refute it at one input. -/
def fnExactApartOfWrong : ChangeSpec := { name := "fnExactApartOf", fn := fun _ => fun
  | [d1, d2] => { results := [.lit (.bool false)], args := [d1, d2] }
  | _ => none }
def FnExactApartOfWrongFalsely : Prop := fnExactApartOfRow.holds Try.pinned (OpenSpec.ofChange fnExactApartOfWrong)

/-- 'laws.FnExactPlusWord': WHATEVER THE INPUT: true; the input reads as it did. -/
def fnExactPlusWordSpec : ChangeSpec := { name := "fnExactPlusWord", fn := fun _ => fun
  | [d1, d2] => { results := [.lit (.bool true)], args := [d1, d2] }
  | _ => none }
def fnExactPlusWordRow : OpenClaim := { program := "ytiigbilpoakgiaa", sum := "3b387f1fe58b988db02d9e075e5d634d5171ea4988282de20910ca758d3afb8d", func := "loop.example/g01307/laws.FnExactPlusWord", spec := "fnExactPlusWord", apart := false }
def FnExactPlusWordSaid : Prop := fnExactPlusWordRow.holds Try.pinned (OpenSpec.ofChange fnExactPlusWordSpec)

/-- ITS FALSE NEIGHBOUR: 'it returns false'. Refute it at one input. -/
def fnExactPlusWordWrong : ChangeSpec := { name := "fnExactPlusWord", fn := fun _ => fun
  | [d1, d2] => { results := [.lit (.bool false)], args := [d1, d2] }
  | _ => none }
def FnExactPlusWordWrongFalsely : Prop := fnExactPlusWordRow.holds Try.pinned (OpenSpec.ofChange fnExactPlusWordWrong)

/-- 'laws.FnExactCheckSum': WHATEVER THE INPUT: true; the input reads as it did. -/
def fnExactCheckSumSpec : ChangeSpec := { name := "fnExactCheckSum", fn := fun _ => fun
  | [d] => { results := [.lit (.bool true)], args := [d] }
  | _ => none }
def fnExactCheckSumRow : OpenClaim := { program := "ytiigbilpoakgiaa", sum := "3b387f1fe58b988db02d9e075e5d634d5171ea4988282de20910ca758d3afb8d", func := "loop.example/g01307/laws.FnExactCheckSum", spec := "fnExactCheckSum", recurses := true, apart := false }
def FnExactCheckSumSaid : Prop := fnExactCheckSumRow.holds Try.pinned (OpenSpec.ofChange fnExactCheckSumSpec)

/-- ITS FALSE NEIGHBOUR: 'it returns false'. Refute it at one input. -/
def fnExactCheckSumWrong : ChangeSpec := { name := "fnExactCheckSum", fn := fun _ => fun
  | [d] => { results := [.lit (.bool false)], args := [d] }
  | _ => none }
def FnExactCheckSumWrongFalsely : Prop := fnExactCheckSumRow.holds Try.pinned (OpenSpec.ofChange fnExactCheckSumWrong)

/-- 'laws.FnExactScaleWord': WHATEVER THE INPUT: true; the input reads as it did. -/
def fnExactScaleWordSpec : ChangeSpec := { name := "fnExactScaleWord", fn := fun _ => fun
  | [d1, d2] => { results := [.lit (.bool true)], args := [d1, d2] }
  | _ => none }
def fnExactScaleWordRow : OpenClaim := { program := "ytiigbilpoakgiaa", sum := "3b387f1fe58b988db02d9e075e5d634d5171ea4988282de20910ca758d3afb8d", func := "loop.example/g01307/laws.FnExactScaleWord", spec := "fnExactScaleWord", recurses := true, apart := false }
def FnExactScaleWordSaid : Prop := fnExactScaleWordRow.holds Try.pinned (OpenSpec.ofChange fnExactScaleWordSpec)

/-- ITS FALSE NEIGHBOUR: 'it returns false'. Refute it at one input. -/
def fnExactScaleWordWrong : ChangeSpec := { name := "fnExactScaleWord", fn := fun _ => fun
  | [d1, d2] => { results := [.lit (.bool false)], args := [d1, d2] }
  | _ => none }
def FnExactScaleWordWrongFalsely : Prop := fnExactScaleWordRow.holds Try.pinned (OpenSpec.ofChange fnExactScaleWordWrong)

/- THE SECOND FORM. 'bulk': how many values and letters a reading holds, each counted each time it is reached (what is shared counts as often as it is met; a slice's spare places count too). A statement '..UptoSaid' is the law's where the arguments, and the package variables that the reading takes, are together of bulk at most 1048576: NARROWER than '..Said'. Prove '..Said' where nothing that the law and all that it calls make is longer than what came in: it says more and counts as full. Else prove '..UptoSaid'. A law counts once. -/
mutual
def uptoBulk {H : Type} : DataW H → Nat
  | .lit (.string bytes) => bytes.length + 1
  | .lit _ => 1
  | .nil => 1
  | .ptr d => uptoBulk d + 1
  | .slice elems spare => uptoBulkAll elems + uptoBulkAll spare + 1
  | .agg parts => uptoBulkAll parts + 1
  | .iface _ d => uptoBulk d + 1
  | .map entries => uptoBulkEntries entries + 1
  | .held _ => 1
def uptoBulkAll {H : Type} : List (DataW H) → Nat
  | [] => 0
  | d :: r => uptoBulk d + uptoBulkAll r
def uptoBulkEntries {H : Type} : List (Lit × DataW H) → Nat
  | [] => 0
  | x :: r => uptoBulkEntry x + uptoBulkEntries r
def uptoBulkEntry {H : Type} : Lit × DataW H → Nat
  | (.string bytes, d) => bytes.length + uptoBulk d + 1
  | (_, d) => uptoBulk d + 1
 end
def uptoSmall : (H : Type) → List (DataW H) → Bool := fun _ ds => decide (uptoBulkAll ds ≤ 1048576)
def OpenSpec.upto (s : _root_.Go.ChangeSpec) : _root_.Go.OpenSpec := { _root_.Go.OpenSpec.ofChange s with cond := some uptoSmall }

/-- 'laws.FnExactValidPoly', WHERE WHAT IT READS IS OF BULK AT MOST 1048576: true; the input reads as it did. -/
def fnExactValidPolyUptoRow : OpenClaim := { program := "ytiigbilpoakgiaa", sum := "3b387f1fe58b988db02d9e075e5d634d5171ea4988282de20910ca758d3afb8d", func := "loop.example/g01307/laws.FnExactValidPoly", spec := "fnExactValidPoly", apart := false, narrowed := true }
def FnExactValidPolyUptoSaid : Prop := fnExactValidPolyUptoRow.holds Try.pinned (OpenSpec.upto fnExactValidPolySpec)

/-- 'laws.FnExactWeightOf', WHERE WHAT IT READS IS OF BULK AT MOST 1048576: true; the input reads as it did. -/
def fnExactWeightOfUptoRow : OpenClaim := { program := "ytiigbilpoakgiaa", sum := "3b387f1fe58b988db02d9e075e5d634d5171ea4988282de20910ca758d3afb8d", func := "loop.example/g01307/laws.FnExactWeightOf", spec := "fnExactWeightOf", apart := false, narrowed := true }
def FnExactWeightOfUptoSaid : Prop := fnExactWeightOfUptoRow.holds Try.pinned (OpenSpec.upto fnExactWeightOfSpec)

/-- 'laws.FnExactDegreeOf', WHERE WHAT IT READS IS OF BULK AT MOST 1048576: true; the input reads as it did. -/
def fnExactDegreeOfUptoRow : OpenClaim := { program := "ytiigbilpoakgiaa", sum := "3b387f1fe58b988db02d9e075e5d634d5171ea4988282de20910ca758d3afb8d", func := "loop.example/g01307/laws.FnExactDegreeOf", spec := "fnExactDegreeOf", apart := false, narrowed := true }
def FnExactDegreeOfUptoSaid : Prop := fnExactDegreeOfUptoRow.holds Try.pinned (OpenSpec.upto fnExactDegreeOfSpec)

/-- 'laws.FnExactSamePoly', WHERE WHAT IT READS IS OF BULK AT MOST 1048576: true; the input reads as it did. -/
def fnExactSamePolyUptoRow : OpenClaim := { program := "ytiigbilpoakgiaa", sum := "3b387f1fe58b988db02d9e075e5d634d5171ea4988282de20910ca758d3afb8d", func := "loop.example/g01307/laws.FnExactSamePoly", spec := "fnExactSamePoly", apart := false, narrowed := true }
def FnExactSamePolyUptoSaid : Prop := fnExactSamePolyUptoRow.holds Try.pinned (OpenSpec.upto fnExactSamePolySpec)

/-- 'laws.FnExactSameWord', WHERE WHAT IT READS IS OF BULK AT MOST 1048576: true; the input reads as it did. -/
def fnExactSameWordUptoRow : OpenClaim := { program := "ytiigbilpoakgiaa", sum := "3b387f1fe58b988db02d9e075e5d634d5171ea4988282de20910ca758d3afb8d", func := "loop.example/g01307/laws.FnExactSameWord", spec := "fnExactSameWord", apart := false, narrowed := true }
def FnExactSameWordUptoSaid : Prop := fnExactSameWordUptoRow.holds Try.pinned (OpenSpec.upto fnExactSameWordSpec)

/-- 'laws.FnExactValidWord', WHERE WHAT IT READS IS OF BULK AT MOST 1048576: true; the input reads as it did. -/
def fnExactValidWordUptoRow : OpenClaim := { program := "ytiigbilpoakgiaa", sum := "3b387f1fe58b988db02d9e075e5d634d5171ea4988282de20910ca758d3afb8d", func := "loop.example/g01307/laws.FnExactValidWord", spec := "fnExactValidWord", unfollowed := true, recurses := true, apart := false, narrowed := true }
def FnExactValidWordUptoSaid : Prop := fnExactValidWordUptoRow.holds Try.pinned (OpenSpec.upto fnExactValidWordSpec)

/-- 'laws.FnExactPlaceOfWord', WHERE WHAT IT READS IS OF BULK AT MOST 1048576: true; the input reads as it did. -/
def fnExactPlaceOfWordUptoRow : OpenClaim := { program := "ytiigbilpoakgiaa", sum := "3b387f1fe58b988db02d9e075e5d634d5171ea4988282de20910ca758d3afb8d", func := "loop.example/g01307/laws.FnExactPlaceOfWord", spec := "fnExactPlaceOfWord", unfollowed := true, recurses := true, apart := false, narrowed := true }
def FnExactPlaceOfWordUptoSaid : Prop := fnExactPlaceOfWordUptoRow.holds Try.pinned (OpenSpec.upto fnExactPlaceOfWordSpec)

/-- 'laws.FnExactWordAtPlace', WHERE WHAT IT READS IS OF BULK AT MOST 1048576: true; the input reads as it did. -/
def fnExactWordAtPlaceUptoRow : OpenClaim := { program := "ytiigbilpoakgiaa", sum := "3b387f1fe58b988db02d9e075e5d634d5171ea4988282de20910ca758d3afb8d", func := "loop.example/g01307/laws.FnExactWordAtPlace", spec := "fnExactWordAtPlace", apart := false, narrowed := true }
def FnExactWordAtPlaceUptoSaid : Prop := fnExactWordAtPlaceUptoRow.holds Try.pinned (OpenSpec.upto fnExactWordAtPlaceSpec)

/-- 'laws.FnExactApartOf', WHERE WHAT IT READS IS OF BULK AT MOST 1048576: true; the input reads as it did. -/
def fnExactApartOfUptoRow : OpenClaim := { program := "ytiigbilpoakgiaa", sum := "3b387f1fe58b988db02d9e075e5d634d5171ea4988282de20910ca758d3afb8d", func := "loop.example/g01307/laws.FnExactApartOf", spec := "fnExactApartOf", apart := false, narrowed := true }
def FnExactApartOfUptoSaid : Prop := fnExactApartOfUptoRow.holds Try.pinned (OpenSpec.upto fnExactApartOfSpec)

/-- 'laws.FnExactPlusWord', WHERE WHAT IT READS IS OF BULK AT MOST 1048576: true; the input reads as it did. -/
def fnExactPlusWordUptoRow : OpenClaim := { program := "ytiigbilpoakgiaa", sum := "3b387f1fe58b988db02d9e075e5d634d5171ea4988282de20910ca758d3afb8d", func := "loop.example/g01307/laws.FnExactPlusWord", spec := "fnExactPlusWord", apart := false, narrowed := true }
def FnExactPlusWordUptoSaid : Prop := fnExactPlusWordUptoRow.holds Try.pinned (OpenSpec.upto fnExactPlusWordSpec)

/-- 'laws.FnExactCheckSum', WHERE WHAT IT READS IS OF BULK AT MOST 1048576: true; the input reads as it did. -/
def fnExactCheckSumUptoRow : OpenClaim := { program := "ytiigbilpoakgiaa", sum := "3b387f1fe58b988db02d9e075e5d634d5171ea4988282de20910ca758d3afb8d", func := "loop.example/g01307/laws.FnExactCheckSum", spec := "fnExactCheckSum", recurses := true, apart := false, narrowed := true }
def FnExactCheckSumUptoSaid : Prop := fnExactCheckSumUptoRow.holds Try.pinned (OpenSpec.upto fnExactCheckSumSpec)

/-- 'laws.FnExactScaleWord', WHERE WHAT IT READS IS OF BULK AT MOST 1048576: true; the input reads as it did. -/
def fnExactScaleWordUptoRow : OpenClaim := { program := "ytiigbilpoakgiaa", sum := "3b387f1fe58b988db02d9e075e5d634d5171ea4988282de20910ca758d3afb8d", func := "loop.example/g01307/laws.FnExactScaleWord", spec := "fnExactScaleWord", recurses := true, apart := false, narrowed := true }
def FnExactScaleWordUptoSaid : Prop := fnExactScaleWordUptoRow.holds Try.pinned (OpenSpec.upto fnExactScaleWordSpec)

end Rows
end Go.Proofs.Ytiigbilpoakgiaa

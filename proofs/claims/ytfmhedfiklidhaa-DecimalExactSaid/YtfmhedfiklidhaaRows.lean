/-
  No cell of these rows narrows 'for every input' (looked for: loops, veiled, ifaces, maps, wideKeys, modest, calm, conditions, laid).
  DERIVED. THE GIVEN ROWS OF THIS SEAT. 7 by the template 'for every input the law returns true; each argument reads behind the call as it read before'; 0 by the template 'total and deterministic' (their statements: YtfmhedfiklidhaaTotals.lean).
  GIVEN WITH THE SEED: the statements are not yours to turn. If you find one false, say at which input.
  Laid BY PROGRAM, IN A SANDBOX (cutbox-rows.mjs): the forced cells as the released guide's own fill.sh prints them over the translation b0657b274e70a91c… (all of the seat's roots in one cut). By AI agents, Wed Nov 11 2026. No macro, syntax, notation, axiom, sorry.
-/
import Derived.Test.YtfmhedfiklidhaaChecked
import GoSem.Claim
import GoSem.ClaimJoined
import GoSem.ClaimMapViews
import Derived.JoinedTies
import Derived.KernelRfl
namespace Go.Proofs.Ytfmhedfiklidhaa
/- THE CELL 'sum', in the pinned program and in every row, IS THE sha256 OF THE DUMP (.gsa) THAT YtfmhedfiklidhaaProg.lean LOADS. Nothing in Lean hashes anything: it is a label: what it is worth is what the hold of that sum in a sandbox is worth. -/
noncomputable def Try.pinned : Pinned := { name := "ytfmhedfiklidhaa", sum := "b0657b274e70a91cc42d1c2714a6f7bcf94190794c84f8df975037cdfd3de964", checked := Try.checked }
namespace Rows
def none {H : Type} : Left H := { results := [], args := [] }

/-- 'relucertlaw04.DecimalText': WHATEVER THE INPUT: true; the input reads as it did. -/
def decimalTextSpec : ChangeSpec := { name := "decimalText", fn := fun _ => fun
  | [d] => { results := [.lit (.bool true)], args := [d] }
  | _ => none }
def decimalTextRow : OpenClaim := { program := "ytfmhedfiklidhaa", sum := "b0657b274e70a91cc42d1c2714a6f7bcf94190794c84f8df975037cdfd3de964", func := "relucert/relucertlaw04.DecimalText", spec := "decimalText", inPlace := ["internal/abi.NoEscape", "internal/bytealg.MakeNoZero"], apart := false }
def DecimalTextSaid : Prop := decimalTextRow.holds Try.pinned (OpenSpec.ofChange decimalTextSpec)

/-- ITS FALSE NEIGHBOUR: 'it returns false'. Refute it at one input. -/
def decimalTextWrong : ChangeSpec := { name := "decimalText", fn := fun _ => fun
  | [d] => { results := [.lit (.bool false)], args := [d] }
  | _ => none }
def DecimalTextWrongFalsely : Prop := decimalTextRow.holds Try.pinned (OpenSpec.ofChange decimalTextWrong)

/-- 'relucertlaw04.DecimalParse': WHATEVER THE INPUT: true; the input reads as it did. -/
def decimalParseSpec : ChangeSpec := { name := "decimalParse", fn := fun _ => fun
  | [d] => { results := [.lit (.bool true)], args := [d] }
  | _ => none }
def decimalParseRow : OpenClaim := { program := "ytfmhedfiklidhaa", sum := "b0657b274e70a91cc42d1c2714a6f7bcf94190794c84f8df975037cdfd3de964", func := "relucert/relucertlaw04.DecimalParse", spec := "decimalParse", inPlace := ["internal/abi.NoEscape", "internal/bytealg.MakeNoZero"], apart := false }
def DecimalParseSaid : Prop := decimalParseRow.holds Try.pinned (OpenSpec.ofChange decimalParseSpec)

/-- ITS FALSE NEIGHBOUR: 'it returns false'. Refute it at one input. -/
def decimalParseWrong : ChangeSpec := { name := "decimalParse", fn := fun _ => fun
  | [d] => { results := [.lit (.bool false)], args := [d] }
  | _ => none }
def DecimalParseWrongFalsely : Prop := decimalParseRow.holds Try.pinned (OpenSpec.ofChange decimalParseWrong)

/-- 'relucertlaw04.DecimalLong': WHATEVER THE INPUT: true; the input reads as it did. -/
def decimalLongSpec : ChangeSpec := { name := "decimalLong", fn := fun _ => fun
  | [d] => { results := [.lit (.bool true)], args := [d] }
  | _ => none }
def decimalLongRow : OpenClaim := { program := "ytfmhedfiklidhaa", sum := "b0657b274e70a91cc42d1c2714a6f7bcf94190794c84f8df975037cdfd3de964", func := "relucert/relucertlaw04.DecimalLong", spec := "decimalLong", inPlace := ["internal/abi.NoEscape", "internal/bytealg.MakeNoZero"], apart := false }
def DecimalLongSaid : Prop := decimalLongRow.holds Try.pinned (OpenSpec.ofChange decimalLongSpec)

/-- ITS FALSE NEIGHBOUR: 'it returns false'. Refute it at one input. -/
def decimalLongWrong : ChangeSpec := { name := "decimalLong", fn := fun _ => fun
  | [d] => { results := [.lit (.bool false)], args := [d] }
  | _ => none }
def DecimalLongWrongFalsely : Prop := decimalLongRow.holds Try.pinned (OpenSpec.ofChange decimalLongWrong)

/-- 'relucertlaw04.DecimalFixed': WHATEVER THE INPUT: true; the input reads as it did. -/
def decimalFixedSpec : ChangeSpec := { name := "decimalFixed", fn := fun _ => fun
  | [d1, d2] => { results := [.lit (.bool true)], args := [d1, d2] }
  | _ => none }
def decimalFixedRow : OpenClaim := { program := "ytfmhedfiklidhaa", sum := "b0657b274e70a91cc42d1c2714a6f7bcf94190794c84f8df975037cdfd3de964", func := "relucert/relucertlaw04.DecimalFixed", spec := "decimalFixed", inPlace := ["internal/abi.NoEscape", "internal/bytealg.MakeNoZero"], apart := false }
def DecimalFixedSaid : Prop := decimalFixedRow.holds Try.pinned (OpenSpec.ofChange decimalFixedSpec)

/-- ITS FALSE NEIGHBOUR: 'it returns false'. Refute it at one input. -/
def decimalFixedWrong : ChangeSpec := { name := "decimalFixed", fn := fun _ => fun
  | [d1, d2] => { results := [.lit (.bool false)], args := [d1, d2] }
  | _ => none }
def DecimalFixedWrongFalsely : Prop := decimalFixedRow.holds Try.pinned (OpenSpec.ofChange decimalFixedWrong)

/-- 'relucertlaw04.DecimalRoundTrip': WHATEVER THE INPUT: true; the input reads as it did. -/
def decimalRoundTripSpec : ChangeSpec := { name := "decimalRoundTrip", fn := fun _ => fun
  | [d1, d2] => { results := [.lit (.bool true)], args := [d1, d2] }
  | _ => none }
def decimalRoundTripRow : OpenClaim := { program := "ytfmhedfiklidhaa", sum := "b0657b274e70a91cc42d1c2714a6f7bcf94190794c84f8df975037cdfd3de964", func := "relucert/relucertlaw04.DecimalRoundTrip", spec := "decimalRoundTrip", inPlace := ["internal/abi.NoEscape", "internal/bytealg.MakeNoZero"], apart := false }
def DecimalRoundTripSaid : Prop := decimalRoundTripRow.holds Try.pinned (OpenSpec.ofChange decimalRoundTripSpec)

/-- ITS FALSE NEIGHBOUR: 'it returns false'. Refute it at one input. -/
def decimalRoundTripWrong : ChangeSpec := { name := "decimalRoundTrip", fn := fun _ => fun
  | [d1, d2] => { results := [.lit (.bool false)], args := [d1, d2] }
  | _ => none }
def DecimalRoundTripWrongFalsely : Prop := decimalRoundTripRow.holds Try.pinned (OpenSpec.ofChange decimalRoundTripWrong)

/-- 'relucertlaw04.DecimalRounding': WHATEVER THE INPUT: true; the input reads as it did. -/
def decimalRoundingSpec : ChangeSpec := { name := "decimalRounding", fn := fun _ => fun
  | [d1, d2] => { results := [.lit (.bool true)], args := [d1, d2] }
  | _ => none }
def decimalRoundingRow : OpenClaim := { program := "ytfmhedfiklidhaa", sum := "b0657b274e70a91cc42d1c2714a6f7bcf94190794c84f8df975037cdfd3de964", func := "relucert/relucertlaw04.DecimalRounding", spec := "decimalRounding", inPlace := ["internal/abi.NoEscape", "internal/bytealg.MakeNoZero"], apart := false }
def DecimalRoundingSaid : Prop := decimalRoundingRow.holds Try.pinned (OpenSpec.ofChange decimalRoundingSpec)

/-- ITS FALSE NEIGHBOUR: 'it returns false'. Refute it at one input. -/
def decimalRoundingWrong : ChangeSpec := { name := "decimalRounding", fn := fun _ => fun
  | [d1, d2] => { results := [.lit (.bool false)], args := [d1, d2] }
  | _ => none }
def DecimalRoundingWrongFalsely : Prop := decimalRoundingRow.holds Try.pinned (OpenSpec.ofChange decimalRoundingWrong)

/-- 'relucertlaw04.DecimalExact': WHATEVER THE INPUT: true; the input reads as it did. -/
def decimalExactSpec : ChangeSpec := { name := "decimalExact", fn := fun _ => fun
  | [d1, d2, d3] => { results := [.lit (.bool true)], args := [d1, d2, d3] }
  | _ => none }
def decimalExactRow : OpenClaim := { program := "ytfmhedfiklidhaa", sum := "b0657b274e70a91cc42d1c2714a6f7bcf94190794c84f8df975037cdfd3de964", func := "relucert/relucertlaw04.DecimalExact", spec := "decimalExact", inPlace := ["internal/abi.NoEscape", "internal/bytealg.MakeNoZero"], apart := false }
def DecimalExactSaid : Prop := decimalExactRow.holds Try.pinned (OpenSpec.ofChange decimalExactSpec)

/-- ITS FALSE NEIGHBOUR: 'it returns false'. Refute it at one input. -/
def decimalExactWrong : ChangeSpec := { name := "decimalExact", fn := fun _ => fun
  | [d1, d2, d3] => { results := [.lit (.bool false)], args := [d1, d2, d3] }
  | _ => none }
def DecimalExactWrongFalsely : Prop := decimalExactRow.holds Try.pinned (OpenSpec.ofChange decimalExactWrong)

/- THE SECOND FORM. 'bulk': how many values and letters a reading holds, each counted each time it is reached (what is shared counts as often as it is met; a slice's spare places count too). A statement '..UptoSaid' is the law's where the arguments, and the package variables that the reading takes, are together of bulk at most 1048576: NARROWER than '..Said'. Prove '..Said' where nothing that the law and all that it calls make is longer than what came in: it says more and counts as full. Else prove '..UptoSaid'. A law counts once. -/
mutual
def uptoBulk {H : Type} : DataW H → Nat
  | .lit (.string bytes) => bytes.length + 1
  | .lit _ => 1
  | .nil => 1
  | .ptr d => uptoBulk d + 1
  | .slice elems spare => uptoBulkAll elems + uptoBulkAll spare + 1
  | .agg parts => uptoBulkAll parts + 1
  | .iface _ d => uptoBulk d + 1
  | .map entries => uptoBulkEntries entries + 1
  | .held _ => 1
def uptoBulkAll {H : Type} : List (DataW H) → Nat
  | [] => 0
  | d :: r => uptoBulk d + uptoBulkAll r
def uptoBulkEntries {H : Type} : List (Lit × DataW H) → Nat
  | [] => 0
  | x :: r => uptoBulkEntry x + uptoBulkEntries r
def uptoBulkEntry {H : Type} : Lit × DataW H → Nat
  | (.string bytes, d) => bytes.length + uptoBulk d + 1
  | (_, d) => uptoBulk d + 1
 end
def uptoSmall : (H : Type) → List (DataW H) → Bool := fun _ ds => decide (uptoBulkAll ds ≤ 1048576)
def OpenSpec.upto (s : _root_.Go.ChangeSpec) : _root_.Go.OpenSpec := { _root_.Go.OpenSpec.ofChange s with cond := some uptoSmall }

/-- 'relucertlaw04.DecimalText', WHERE WHAT IT READS IS OF BULK AT MOST 1048576: true; the input reads as it did. -/
def decimalTextUptoRow : OpenClaim := { program := "ytfmhedfiklidhaa", sum := "b0657b274e70a91cc42d1c2714a6f7bcf94190794c84f8df975037cdfd3de964", func := "relucert/relucertlaw04.DecimalText", spec := "decimalText", inPlace := ["internal/abi.NoEscape", "internal/bytealg.MakeNoZero"], apart := false, narrowed := true }
def DecimalTextUptoSaid : Prop := decimalTextUptoRow.holds Try.pinned (OpenSpec.upto decimalTextSpec)

/-- 'relucertlaw04.DecimalParse', WHERE WHAT IT READS IS OF BULK AT MOST 1048576: true; the input reads as it did. -/
def decimalParseUptoRow : OpenClaim := { program := "ytfmhedfiklidhaa", sum := "b0657b274e70a91cc42d1c2714a6f7bcf94190794c84f8df975037cdfd3de964", func := "relucert/relucertlaw04.DecimalParse", spec := "decimalParse", inPlace := ["internal/abi.NoEscape", "internal/bytealg.MakeNoZero"], apart := false, narrowed := true }
def DecimalParseUptoSaid : Prop := decimalParseUptoRow.holds Try.pinned (OpenSpec.upto decimalParseSpec)

/-- 'relucertlaw04.DecimalLong', WHERE WHAT IT READS IS OF BULK AT MOST 1048576: true; the input reads as it did. -/
def decimalLongUptoRow : OpenClaim := { program := "ytfmhedfiklidhaa", sum := "b0657b274e70a91cc42d1c2714a6f7bcf94190794c84f8df975037cdfd3de964", func := "relucert/relucertlaw04.DecimalLong", spec := "decimalLong", inPlace := ["internal/abi.NoEscape", "internal/bytealg.MakeNoZero"], apart := false, narrowed := true }
def DecimalLongUptoSaid : Prop := decimalLongUptoRow.holds Try.pinned (OpenSpec.upto decimalLongSpec)

/-- 'relucertlaw04.DecimalFixed', WHERE WHAT IT READS IS OF BULK AT MOST 1048576: true; the input reads as it did. -/
def decimalFixedUptoRow : OpenClaim := { program := "ytfmhedfiklidhaa", sum := "b0657b274e70a91cc42d1c2714a6f7bcf94190794c84f8df975037cdfd3de964", func := "relucert/relucertlaw04.DecimalFixed", spec := "decimalFixed", inPlace := ["internal/abi.NoEscape", "internal/bytealg.MakeNoZero"], apart := false, narrowed := true }
def DecimalFixedUptoSaid : Prop := decimalFixedUptoRow.holds Try.pinned (OpenSpec.upto decimalFixedSpec)

/-- 'relucertlaw04.DecimalRoundTrip', WHERE WHAT IT READS IS OF BULK AT MOST 1048576: true; the input reads as it did. -/
def decimalRoundTripUptoRow : OpenClaim := { program := "ytfmhedfiklidhaa", sum := "b0657b274e70a91cc42d1c2714a6f7bcf94190794c84f8df975037cdfd3de964", func := "relucert/relucertlaw04.DecimalRoundTrip", spec := "decimalRoundTrip", inPlace := ["internal/abi.NoEscape", "internal/bytealg.MakeNoZero"], apart := false, narrowed := true }
def DecimalRoundTripUptoSaid : Prop := decimalRoundTripUptoRow.holds Try.pinned (OpenSpec.upto decimalRoundTripSpec)

/-- 'relucertlaw04.DecimalRounding', WHERE WHAT IT READS IS OF BULK AT MOST 1048576: true; the input reads as it did. -/
def decimalRoundingUptoRow : OpenClaim := { program := "ytfmhedfiklidhaa", sum := "b0657b274e70a91cc42d1c2714a6f7bcf94190794c84f8df975037cdfd3de964", func := "relucert/relucertlaw04.DecimalRounding", spec := "decimalRounding", inPlace := ["internal/abi.NoEscape", "internal/bytealg.MakeNoZero"], apart := false, narrowed := true }
def DecimalRoundingUptoSaid : Prop := decimalRoundingUptoRow.holds Try.pinned (OpenSpec.upto decimalRoundingSpec)

/-- 'relucertlaw04.DecimalExact', WHERE WHAT IT READS IS OF BULK AT MOST 1048576: true; the input reads as it did. -/
def decimalExactUptoRow : OpenClaim := { program := "ytfmhedfiklidhaa", sum := "b0657b274e70a91cc42d1c2714a6f7bcf94190794c84f8df975037cdfd3de964", func := "relucert/relucertlaw04.DecimalExact", spec := "decimalExact", inPlace := ["internal/abi.NoEscape", "internal/bytealg.MakeNoZero"], apart := false, narrowed := true }
def DecimalExactUptoSaid : Prop := decimalExactUptoRow.holds Try.pinned (OpenSpec.upto decimalExactSpec)

end Rows
end Go.Proofs.Ytfmhedfiklidhaa

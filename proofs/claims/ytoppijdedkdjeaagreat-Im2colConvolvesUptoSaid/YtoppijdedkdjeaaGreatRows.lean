/-
  No cell of these rows narrows 'for every input' (looked for: loops, veiled, ifaces, maps, wideKeys, modest, calm, conditions, laid).
  DERIVED. THE GIVEN ROWS OF THIS SEAT. 8 by the template 'for every input the law returns true; each argument reads behind the call as it read before'; 0 by the template 'total and deterministic' (their statements: YtoppijdedkdjeaaGreatTotals.lean).
  GIVEN WITH THE SEED: the statements are not yours to turn. If you find one false, say at which input.
  Laid BY PROGRAM, IN A SANDBOX (cutbox-rows.mjs): the forced cells as the released guide's own fill.sh prints them over the translation 481af7cef5cfac1f… (all of the seat's roots in one cut). By AI agents, Wed Nov 11 2026. No macro, syntax, notation, axiom, sorry.
-/
import Derived.Test.YtoppijdedkdjeaaGreatChecked
import GoSem.Claim
import GoSem.ClaimJoined
import GoSem.ClaimMapViews
import Derived.JoinedTies
import Derived.KernelRfl
namespace Go.Proofs.YtoppijdedkdjeaaGreat
/- THE CELL 'sum', in the pinned program and in every row, IS THE sha256 OF THE DUMP (.gsa) THAT YtoppijdedkdjeaaGreatProg.lean LOADS. Nothing in Lean hashes anything: it is a label: what it is worth is what the hold of that sum in a sandbox is worth. -/
noncomputable def Tryz.pinned : Pinned := { name := "ytoppijdedkdjeaagreat", sum := "481af7cef5cfac1fbbd140fcac952ff20f38e216abb356858861249b3f4be160", checked := Tryz.checked }
namespace Rows
def none {H : Type} : Left H := { results := [], args := [] }

/-- 'relucertlaw14.EvaluateTrace': WHATEVER THE INPUT: true; the input reads as it did. -/
def evaluateTraceSpec : ChangeSpec := { name := "evaluateTrace", fn := fun _ => fun
  | [d1, d2] => { results := [.lit (.bool true)], args := [d1, d2] }
  | _ => none }
def evaluateTraceRow : OpenClaim := { program := "ytoppijdedkdjeaagreat", sum := "481af7cef5cfac1fbbd140fcac952ff20f38e216abb356858861249b3f4be160", func := "relucert/relucertlaw14.EvaluateTrace", spec := "evaluateTrace", unfollowed := true, recurses := true, apart := false }
def EvaluateTraceSaid : Prop := evaluateTraceRow.holds Tryz.pinned (OpenSpec.ofChange evaluateTraceSpec)

/-- ITS FALSE NEIGHBOUR: 'it returns false'. Refute it at one input. -/
def evaluateTraceWrong : ChangeSpec := { name := "evaluateTrace", fn := fun _ => fun
  | [d1, d2] => { results := [.lit (.bool false)], args := [d1, d2] }
  | _ => none }
def EvaluateTraceWrongFalsely : Prop := evaluateTraceRow.holds Tryz.pinned (OpenSpec.ofChange evaluateTraceWrong)

/-- 'relucertlaw14.EvaluateAffine': WHATEVER THE INPUT: true; the input reads as it did. -/
def evaluateAffineSpec : ChangeSpec := { name := "evaluateAffine", fn := fun _ => fun
  | [d] => { results := [.lit (.bool true)], args := [d] }
  | _ => none }
def evaluateAffineRow : OpenClaim := { program := "ytoppijdedkdjeaagreat", sum := "481af7cef5cfac1fbbd140fcac952ff20f38e216abb356858861249b3f4be160", func := "relucert/relucertlaw14.EvaluateAffine", spec := "evaluateAffine", unfollowed := true, recurses := true, apart := false }
def EvaluateAffineSaid : Prop := evaluateAffineRow.holds Tryz.pinned (OpenSpec.ofChange evaluateAffineSpec)

/-- ITS FALSE NEIGHBOUR: 'it returns false'. Refute it at one input. -/
def evaluateAffineWrong : ChangeSpec := { name := "evaluateAffine", fn := fun _ => fun
  | [d] => { results := [.lit (.bool false)], args := [d] }
  | _ => none }
def EvaluateAffineWrongFalsely : Prop := evaluateAffineRow.holds Tryz.pinned (OpenSpec.ofChange evaluateAffineWrong)

/-- 'relucertlaw14.EvaluateTwice': WHATEVER THE INPUT: true; the input reads as it did. -/
def evaluateTwiceSpec : ChangeSpec := { name := "evaluateTwice", fn := fun _ => fun
  | [d1, d2] => { results := [.lit (.bool true)], args := [d1, d2] }
  | _ => none }
def evaluateTwiceRow : OpenClaim := { program := "ytoppijdedkdjeaagreat", sum := "481af7cef5cfac1fbbd140fcac952ff20f38e216abb356858861249b3f4be160", func := "relucert/relucertlaw14.EvaluateTwice", spec := "evaluateTwice", unfollowed := true, recurses := true, apart := false }
def EvaluateTwiceSaid : Prop := evaluateTwiceRow.holds Tryz.pinned (OpenSpec.ofChange evaluateTwiceSpec)

/-- ITS FALSE NEIGHBOUR: 'it returns false'. Refute it at one input. -/
def evaluateTwiceWrong : ChangeSpec := { name := "evaluateTwice", fn := fun _ => fun
  | [d1, d2] => { results := [.lit (.bool false)], args := [d1, d2] }
  | _ => none }
def EvaluateTwiceWrongFalsely : Prop := evaluateTwiceRow.holds Tryz.pinned (OpenSpec.ofChange evaluateTwiceWrong)

/-- 'relucertlaw14.EvaluatePoint': WHATEVER THE INPUT: true; the input reads as it did. -/
def evaluatePointSpec : ChangeSpec := { name := "evaluatePoint", fn := fun _ => fun
  | [d1, d2, d3] => { results := [.lit (.bool true)], args := [d1, d2, d3] }
  | _ => none }
def evaluatePointRow : OpenClaim := { program := "ytoppijdedkdjeaagreat", sum := "481af7cef5cfac1fbbd140fcac952ff20f38e216abb356858861249b3f4be160", func := "relucert/relucertlaw14.EvaluatePoint", spec := "evaluatePoint", unfollowed := true, recurses := true, apart := false }
def EvaluatePointSaid : Prop := evaluatePointRow.holds Tryz.pinned (OpenSpec.ofChange evaluatePointSpec)

/-- ITS FALSE NEIGHBOUR: 'it returns false'. Refute it at one input. -/
def evaluatePointWrong : ChangeSpec := { name := "evaluatePoint", fn := fun _ => fun
  | [d1, d2, d3] => { results := [.lit (.bool false)], args := [d1, d2, d3] }
  | _ => none }
def EvaluatePointWrongFalsely : Prop := evaluatePointRow.holds Tryz.pinned (OpenSpec.ofChange evaluatePointWrong)

/-- 'relucertlaw14.EvaluateAverage': WHATEVER THE INPUT: true; the input reads as it did. -/
def evaluateAverageSpec : ChangeSpec := { name := "evaluateAverage", fn := fun _ => fun
  | [d1, d2, d3] => { results := [.lit (.bool true)], args := [d1, d2, d3] }
  | _ => none }
def evaluateAverageRow : OpenClaim := { program := "ytoppijdedkdjeaagreat", sum := "481af7cef5cfac1fbbd140fcac952ff20f38e216abb356858861249b3f4be160", func := "relucert/relucertlaw14.EvaluateAverage", spec := "evaluateAverage", unfollowed := true, recurses := true, apart := false }
def EvaluateAverageSaid : Prop := evaluateAverageRow.holds Tryz.pinned (OpenSpec.ofChange evaluateAverageSpec)

/-- ITS FALSE NEIGHBOUR: 'it returns false'. Refute it at one input. -/
def evaluateAverageWrong : ChangeSpec := { name := "evaluateAverage", fn := fun _ => fun
  | [d1, d2, d3] => { results := [.lit (.bool false)], args := [d1, d2, d3] }
  | _ => none }
def EvaluateAverageWrongFalsely : Prop := evaluateAverageRow.holds Tryz.pinned (OpenSpec.ofChange evaluateAverageWrong)

/-- 'relucertlaw14.EvaluateMaxRelu': WHATEVER THE INPUT: true; the input reads as it did. -/
def evaluateMaxReluSpec : ChangeSpec := { name := "evaluateMaxRelu", fn := fun _ => fun
  | [d1, d2, d3] => { results := [.lit (.bool true)], args := [d1, d2, d3] }
  | _ => none }
def evaluateMaxReluRow : OpenClaim := { program := "ytoppijdedkdjeaagreat", sum := "481af7cef5cfac1fbbd140fcac952ff20f38e216abb356858861249b3f4be160", func := "relucert/relucertlaw14.EvaluateMaxRelu", spec := "evaluateMaxRelu", unfollowed := true, recurses := true, apart := false }
def EvaluateMaxReluSaid : Prop := evaluateMaxReluRow.holds Tryz.pinned (OpenSpec.ofChange evaluateMaxReluSpec)

/-- ITS FALSE NEIGHBOUR: 'it returns false'. Refute it at one input. -/
def evaluateMaxReluWrong : ChangeSpec := { name := "evaluateMaxRelu", fn := fun _ => fun
  | [d1, d2, d3] => { results := [.lit (.bool false)], args := [d1, d2, d3] }
  | _ => none }
def EvaluateMaxReluWrongFalsely : Prop := evaluateMaxReluRow.holds Tryz.pinned (OpenSpec.ofChange evaluateMaxReluWrong)

/-- 'relucertlaw53.Im2colConvolves': WHATEVER THE INPUT: true; the input reads as it did. -/
def im2colConvolvesSpec : ChangeSpec := { name := "im2colConvolves", fn := fun _ => fun
  | [d1, d2] => { results := [.lit (.bool true)], args := [d1, d2] }
  | _ => none }
def im2colConvolvesRow : OpenClaim := { program := "ytoppijdedkdjeaagreat", sum := "481af7cef5cfac1fbbd140fcac952ff20f38e216abb356858861249b3f4be160", func := "relucert/relucertlaw53.Im2colConvolves", spec := "im2colConvolves", unfollowed := true, recurses := true, apart := false }
def Im2colConvolvesSaid : Prop := im2colConvolvesRow.holds Tryz.pinned (OpenSpec.ofChange im2colConvolvesSpec)

/-- ITS FALSE NEIGHBOUR: 'it returns false'. Refute it at one input. -/
def im2colConvolvesWrong : ChangeSpec := { name := "im2colConvolves", fn := fun _ => fun
  | [d1, d2] => { results := [.lit (.bool false)], args := [d1, d2] }
  | _ => none }
def Im2colConvolvesWrongFalsely : Prop := im2colConvolvesRow.holds Tryz.pinned (OpenSpec.ofChange im2colConvolvesWrong)

/-- 'relucertlaw53.Im2colPools': WHATEVER THE INPUT: true; the input reads as it did. -/
def im2colPoolsSpec : ChangeSpec := { name := "im2colPools", fn := fun _ => fun
  | [d1, d2] => { results := [.lit (.bool true)], args := [d1, d2] }
  | _ => none }
def im2colPoolsRow : OpenClaim := { program := "ytoppijdedkdjeaagreat", sum := "481af7cef5cfac1fbbd140fcac952ff20f38e216abb356858861249b3f4be160", func := "relucert/relucertlaw53.Im2colPools", spec := "im2colPools", unfollowed := true, recurses := true, apart := false }
def Im2colPoolsSaid : Prop := im2colPoolsRow.holds Tryz.pinned (OpenSpec.ofChange im2colPoolsSpec)

/-- ITS FALSE NEIGHBOUR: 'it returns false'. Refute it at one input. -/
def im2colPoolsWrong : ChangeSpec := { name := "im2colPools", fn := fun _ => fun
  | [d1, d2] => { results := [.lit (.bool false)], args := [d1, d2] }
  | _ => none }
def Im2colPoolsWrongFalsely : Prop := im2colPoolsRow.holds Tryz.pinned (OpenSpec.ofChange im2colPoolsWrong)

/- THE SECOND FORM. 'bulk': how many values and letters a reading holds, each counted each time it is reached (what is shared counts as often as it is met; a slice's spare places count too). A statement '..UptoSaid' is the law's where the arguments, and the package variables that the reading takes, are together of bulk at most 1048576: NARROWER than '..Said'. Prove '..Said' where nothing that the law and all that it calls make is longer than what came in: it says more and counts as full. Else prove '..UptoSaid'. A law counts once. -/
mutual
def uptoBulk {H : Type} : DataW H → Nat
  | .lit (.string bytes) => bytes.length + 1
  | .lit _ => 1
  | .nil => 1
  | .ptr d => uptoBulk d + 1
  | .slice elems spare => uptoBulkAll elems + uptoBulkAll spare + 1
  | .agg parts => uptoBulkAll parts + 1
  | .iface _ d => uptoBulk d + 1
  | .map entries => uptoBulkEntries entries + 1
  | .held _ => 1
def uptoBulkAll {H : Type} : List (DataW H) → Nat
  | [] => 0
  | d :: r => uptoBulk d + uptoBulkAll r
def uptoBulkEntries {H : Type} : List (Lit × DataW H) → Nat
  | [] => 0
  | x :: r => uptoBulkEntry x + uptoBulkEntries r
def uptoBulkEntry {H : Type} : Lit × DataW H → Nat
  | (.string bytes, d) => bytes.length + uptoBulk d + 1
  | (_, d) => uptoBulk d + 1
 end
def uptoSmall : (H : Type) → List (DataW H) → Bool := fun _ ds => decide (uptoBulkAll ds ≤ 1048576)
def OpenSpec.upto (s : _root_.Go.ChangeSpec) : _root_.Go.OpenSpec := { _root_.Go.OpenSpec.ofChange s with cond := some uptoSmall }

/-- 'relucertlaw14.EvaluateTrace', WHERE WHAT IT READS IS OF BULK AT MOST 1048576: true; the input reads as it did. -/
def evaluateTraceUptoRow : OpenClaim := { program := "ytoppijdedkdjeaagreat", sum := "481af7cef5cfac1fbbd140fcac952ff20f38e216abb356858861249b3f4be160", func := "relucert/relucertlaw14.EvaluateTrace", spec := "evaluateTrace", unfollowed := true, recurses := true, apart := false, narrowed := true }
def EvaluateTraceUptoSaid : Prop := evaluateTraceUptoRow.holds Tryz.pinned (OpenSpec.upto evaluateTraceSpec)

/-- 'relucertlaw14.EvaluateAffine', WHERE WHAT IT READS IS OF BULK AT MOST 1048576: true; the input reads as it did. -/
def evaluateAffineUptoRow : OpenClaim := { program := "ytoppijdedkdjeaagreat", sum := "481af7cef5cfac1fbbd140fcac952ff20f38e216abb356858861249b3f4be160", func := "relucert/relucertlaw14.EvaluateAffine", spec := "evaluateAffine", unfollowed := true, recurses := true, apart := false, narrowed := true }
def EvaluateAffineUptoSaid : Prop := evaluateAffineUptoRow.holds Tryz.pinned (OpenSpec.upto evaluateAffineSpec)

/-- 'relucertlaw14.EvaluateTwice', WHERE WHAT IT READS IS OF BULK AT MOST 1048576: true; the input reads as it did. -/
def evaluateTwiceUptoRow : OpenClaim := { program := "ytoppijdedkdjeaagreat", sum := "481af7cef5cfac1fbbd140fcac952ff20f38e216abb356858861249b3f4be160", func := "relucert/relucertlaw14.EvaluateTwice", spec := "evaluateTwice", unfollowed := true, recurses := true, apart := false, narrowed := true }
def EvaluateTwiceUptoSaid : Prop := evaluateTwiceUptoRow.holds Tryz.pinned (OpenSpec.upto evaluateTwiceSpec)

/-- 'relucertlaw14.EvaluatePoint', WHERE WHAT IT READS IS OF BULK AT MOST 1048576: true; the input reads as it did. -/
def evaluatePointUptoRow : OpenClaim := { program := "ytoppijdedkdjeaagreat", sum := "481af7cef5cfac1fbbd140fcac952ff20f38e216abb356858861249b3f4be160", func := "relucert/relucertlaw14.EvaluatePoint", spec := "evaluatePoint", unfollowed := true, recurses := true, apart := false, narrowed := true }
def EvaluatePointUptoSaid : Prop := evaluatePointUptoRow.holds Tryz.pinned (OpenSpec.upto evaluatePointSpec)

/-- 'relucertlaw14.EvaluateAverage', WHERE WHAT IT READS IS OF BULK AT MOST 1048576: true; the input reads as it did. -/
def evaluateAverageUptoRow : OpenClaim := { program := "ytoppijdedkdjeaagreat", sum := "481af7cef5cfac1fbbd140fcac952ff20f38e216abb356858861249b3f4be160", func := "relucert/relucertlaw14.EvaluateAverage", spec := "evaluateAverage", unfollowed := true, recurses := true, apart := false, narrowed := true }
def EvaluateAverageUptoSaid : Prop := evaluateAverageUptoRow.holds Tryz.pinned (OpenSpec.upto evaluateAverageSpec)

/-- 'relucertlaw14.EvaluateMaxRelu', WHERE WHAT IT READS IS OF BULK AT MOST 1048576: true; the input reads as it did. -/
def evaluateMaxReluUptoRow : OpenClaim := { program := "ytoppijdedkdjeaagreat", sum := "481af7cef5cfac1fbbd140fcac952ff20f38e216abb356858861249b3f4be160", func := "relucert/relucertlaw14.EvaluateMaxRelu", spec := "evaluateMaxRelu", unfollowed := true, recurses := true, apart := false, narrowed := true }
def EvaluateMaxReluUptoSaid : Prop := evaluateMaxReluUptoRow.holds Tryz.pinned (OpenSpec.upto evaluateMaxReluSpec)

/-- 'relucertlaw53.Im2colConvolves', WHERE WHAT IT READS IS OF BULK AT MOST 1048576: true; the input reads as it did. -/
def im2colConvolvesUptoRow : OpenClaim := { program := "ytoppijdedkdjeaagreat", sum := "481af7cef5cfac1fbbd140fcac952ff20f38e216abb356858861249b3f4be160", func := "relucert/relucertlaw53.Im2colConvolves", spec := "im2colConvolves", unfollowed := true, recurses := true, apart := false, narrowed := true }
def Im2colConvolvesUptoSaid : Prop := im2colConvolvesUptoRow.holds Tryz.pinned (OpenSpec.upto im2colConvolvesSpec)

/-- 'relucertlaw53.Im2colPools', WHERE WHAT IT READS IS OF BULK AT MOST 1048576: true; the input reads as it did. -/
def im2colPoolsUptoRow : OpenClaim := { program := "ytoppijdedkdjeaagreat", sum := "481af7cef5cfac1fbbd140fcac952ff20f38e216abb356858861249b3f4be160", func := "relucert/relucertlaw53.Im2colPools", spec := "im2colPools", unfollowed := true, recurses := true, apart := false, narrowed := true }
def Im2colPoolsUptoSaid : Prop := im2colPoolsUptoRow.holds Tryz.pinned (OpenSpec.upto im2colPoolsSpec)

end Rows
end Go.Proofs.YtoppijdedkdjeaaGreat

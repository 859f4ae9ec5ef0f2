/-
  No cell of these rows narrows 'for every input' (looked for: loops, veiled, ifaces, maps, wideKeys, modest, calm, conditions, laid).
  DERIVED. THE GIVEN ROWS OF THIS SEAT. 7 by the template 'for every input the law returns true; each argument reads behind the call as it read before'; 0 by the template 'total and deterministic' (their statements: YtfgmmghmmfmdgaaGreatTotals.lean).
  GIVEN WITH THE SEED: the statements are not yours to turn. If you find one false, say at which input.
  Laid BY PROGRAM, IN A SANDBOX (cutbox-rows.mjs): the forced cells as the released guide's own fill.sh prints them over the translation b4532eeaa4978548… (all of the seat's roots in one cut). By AI agents, Wed Nov 11 2026. No macro, syntax, notation, axiom, sorry.
-/
import Derived.Test.YtfgmmghmmfmdgaaGreatChecked
import GoSem.Claim
import GoSem.ClaimJoined
import GoSem.ClaimMapViews
import Derived.JoinedTies
import Derived.KernelRfl
namespace Go.Proofs.YtfgmmghmmfmdgaaGreat
/- THE CELL 'sum', in the pinned program and in every row, IS THE sha256 OF THE DUMP (.gsa) THAT YtfgmmghmmfmdgaaGreatProg.lean LOADS. Nothing in Lean hashes anything: it is a label: what it is worth is what the hold of that sum in a sandbox is worth. -/
noncomputable def Tryz.pinned : Pinned := { name := "ytfgmmghmmfmdgaagreat", sum := "b4532eeaa497854884c9ee274d32181b9486a76738b99f98865dfbfc141b8d2f", checked := Tryz.checked }
namespace Rows
def none {H : Type} : Left H := { results := [], args := [] }

/-- 'relucertlaw16.LowerGraph': WHATEVER THE INPUT: true; the input reads as it did. -/
def lowerGraphSpec : ChangeSpec := { name := "lowerGraph", fn := fun _ => fun
  | [d] => { results := [.lit (.bool true)], args := [d] }
  | _ => none }
def lowerGraphRow : OpenClaim := { program := "ytfgmmghmmfmdgaagreat", sum := "b4532eeaa497854884c9ee274d32181b9486a76738b99f98865dfbfc141b8d2f", func := "relucert/relucertlaw16.LowerGraph", spec := "lowerGraph", unfollowed := true, recurses := true, apart := false }
def LowerGraphSaid : Prop := lowerGraphRow.holds Tryz.pinned (OpenSpec.ofChange lowerGraphSpec)

/-- ITS FALSE NEIGHBOUR: 'it returns false'. Refute it at one input. -/
def lowerGraphWrong : ChangeSpec := { name := "lowerGraph", fn := fun _ => fun
  | [d] => { results := [.lit (.bool false)], args := [d] }
  | _ => none }
def LowerGraphWrongFalsely : Prop := lowerGraphRow.holds Tryz.pinned (OpenSpec.ofChange lowerGraphWrong)

/-- 'relucertlaw16.LowerOutputs': WHATEVER THE INPUT: true; the input reads as it did. -/
def lowerOutputsSpec : ChangeSpec := { name := "lowerOutputs", fn := fun _ => fun
  | [d1, d2] => { results := [.lit (.bool true)], args := [d1, d2] }
  | _ => none }
def lowerOutputsRow : OpenClaim := { program := "ytfgmmghmmfmdgaagreat", sum := "b4532eeaa497854884c9ee274d32181b9486a76738b99f98865dfbfc141b8d2f", func := "relucert/relucertlaw16.LowerOutputs", spec := "lowerOutputs", unfollowed := true, recurses := true, apart := false }
def LowerOutputsSaid : Prop := lowerOutputsRow.holds Tryz.pinned (OpenSpec.ofChange lowerOutputsSpec)

/-- ITS FALSE NEIGHBOUR: 'it returns false'. Refute it at one input. -/
def lowerOutputsWrong : ChangeSpec := { name := "lowerOutputs", fn := fun _ => fun
  | [d1, d2] => { results := [.lit (.bool false)], args := [d1, d2] }
  | _ => none }
def LowerOutputsWrongFalsely : Prop := lowerOutputsRow.holds Tryz.pinned (OpenSpec.ofChange lowerOutputsWrong)

/-- 'relucertlaw16.LowerRelu': WHATEVER THE INPUT: true; the input reads as it did. -/
def lowerReluSpec : ChangeSpec := { name := "lowerRelu", fn := fun _ => fun
  | [d] => { results := [.lit (.bool true)], args := [d] }
  | _ => none }
def lowerReluRow : OpenClaim := { program := "ytfgmmghmmfmdgaagreat", sum := "b4532eeaa497854884c9ee274d32181b9486a76738b99f98865dfbfc141b8d2f", func := "relucert/relucertlaw16.LowerRelu", spec := "lowerRelu", unfollowed := true, recurses := true, apart := false }
def LowerReluSaid : Prop := lowerReluRow.holds Tryz.pinned (OpenSpec.ofChange lowerReluSpec)

/-- ITS FALSE NEIGHBOUR: 'it returns false'. Refute it at one input. -/
def lowerReluWrong : ChangeSpec := { name := "lowerRelu", fn := fun _ => fun
  | [d] => { results := [.lit (.bool false)], args := [d] }
  | _ => none }
def LowerReluWrongFalsely : Prop := lowerReluRow.holds Tryz.pinned (OpenSpec.ofChange lowerReluWrong)

/-- 'relucertlaw16.LowerPrefix': WHATEVER THE INPUT: true; the input reads as it did. -/
def lowerPrefixSpec : ChangeSpec := { name := "lowerPrefix", fn := fun _ => fun
  | [d1, d2] => { results := [.lit (.bool true)], args := [d1, d2] }
  | _ => none }
def lowerPrefixRow : OpenClaim := { program := "ytfgmmghmmfmdgaagreat", sum := "b4532eeaa497854884c9ee274d32181b9486a76738b99f98865dfbfc141b8d2f", func := "relucert/relucertlaw16.LowerPrefix", spec := "lowerPrefix", unfollowed := true, recurses := true, apart := false }
def LowerPrefixSaid : Prop := lowerPrefixRow.holds Tryz.pinned (OpenSpec.ofChange lowerPrefixSpec)

/-- ITS FALSE NEIGHBOUR: 'it returns false'. Refute it at one input. -/
def lowerPrefixWrong : ChangeSpec := { name := "lowerPrefix", fn := fun _ => fun
  | [d1, d2] => { results := [.lit (.bool false)], args := [d1, d2] }
  | _ => none }
def LowerPrefixWrongFalsely : Prop := lowerPrefixRow.holds Tryz.pinned (OpenSpec.ofChange lowerPrefixWrong)

/-- 'relucertlaw16.LowerMaximum': WHATEVER THE INPUT: true; the input reads as it did. -/
def lowerMaximumSpec : ChangeSpec := { name := "lowerMaximum", fn := fun _ => fun
  | [d1, d2, d3] => { results := [.lit (.bool true)], args := [d1, d2, d3] }
  | _ => none }
def lowerMaximumRow : OpenClaim := { program := "ytfgmmghmmfmdgaagreat", sum := "b4532eeaa497854884c9ee274d32181b9486a76738b99f98865dfbfc141b8d2f", func := "relucert/relucertlaw16.LowerMaximum", spec := "lowerMaximum", unfollowed := true, recurses := true, apart := false }
def LowerMaximumSaid : Prop := lowerMaximumRow.holds Tryz.pinned (OpenSpec.ofChange lowerMaximumSpec)

/-- ITS FALSE NEIGHBOUR: 'it returns false'. Refute it at one input. -/
def lowerMaximumWrong : ChangeSpec := { name := "lowerMaximum", fn := fun _ => fun
  | [d1, d2, d3] => { results := [.lit (.bool false)], args := [d1, d2, d3] }
  | _ => none }
def LowerMaximumWrongFalsely : Prop := lowerMaximumRow.holds Tryz.pinned (OpenSpec.ofChange lowerMaximumWrong)

/-- 'relucertlaw16.LowerCount': WHATEVER THE INPUT: true; the input reads as it did. -/
def lowerCountSpec : ChangeSpec := { name := "lowerCount", fn := fun _ => fun
  | [d] => { results := [.lit (.bool true)], args := [d] }
  | _ => none }
def lowerCountRow : OpenClaim := { program := "ytfgmmghmmfmdgaagreat", sum := "b4532eeaa497854884c9ee274d32181b9486a76738b99f98865dfbfc141b8d2f", func := "relucert/relucertlaw16.LowerCount", spec := "lowerCount", unfollowed := true, recurses := true, apart := false }
def LowerCountSaid : Prop := lowerCountRow.holds Tryz.pinned (OpenSpec.ofChange lowerCountSpec)

/-- ITS FALSE NEIGHBOUR: 'it returns false'. Refute it at one input. -/
def lowerCountWrong : ChangeSpec := { name := "lowerCount", fn := fun _ => fun
  | [d] => { results := [.lit (.bool false)], args := [d] }
  | _ => none }
def LowerCountWrongFalsely : Prop := lowerCountRow.holds Tryz.pinned (OpenSpec.ofChange lowerCountWrong)

/-- 'relucertlaw16.LowerLimits': WHATEVER THE INPUT: true; the input reads as it did. -/
def lowerLimitsSpec : ChangeSpec := { name := "lowerLimits", fn := fun _ => fun
  | [d1, d2] => { results := [.lit (.bool true)], args := [d1, d2] }
  | _ => none }
def lowerLimitsRow : OpenClaim := { program := "ytfgmmghmmfmdgaagreat", sum := "b4532eeaa497854884c9ee274d32181b9486a76738b99f98865dfbfc141b8d2f", func := "relucert/relucertlaw16.LowerLimits", spec := "lowerLimits", unfollowed := true, recurses := true, apart := false }
def LowerLimitsSaid : Prop := lowerLimitsRow.holds Tryz.pinned (OpenSpec.ofChange lowerLimitsSpec)

/-- ITS FALSE NEIGHBOUR: 'it returns false'. Refute it at one input. -/
def lowerLimitsWrong : ChangeSpec := { name := "lowerLimits", fn := fun _ => fun
  | [d1, d2] => { results := [.lit (.bool false)], args := [d1, d2] }
  | _ => none }
def LowerLimitsWrongFalsely : Prop := lowerLimitsRow.holds Tryz.pinned (OpenSpec.ofChange lowerLimitsWrong)

/- THE SECOND FORM. 'bulk': how many values and letters a reading holds, each counted each time it is reached (what is shared counts as often as it is met; a slice's spare places count too). A statement '..UptoSaid' is the law's where the arguments, and the package variables that the reading takes, are together of bulk at most 1048576: NARROWER than '..Said'. Prove '..Said' where nothing that the law and all that it calls make is longer than what came in: it says more and counts as full. Else prove '..UptoSaid'. A law counts once. -/
mutual
def uptoBulk {H : Type} : DataW H → Nat
  | .lit (.string bytes) => bytes.length + 1
  | .lit _ => 1
  | .nil => 1
  | .ptr d => uptoBulk d + 1
  | .slice elems spare => uptoBulkAll elems + uptoBulkAll spare + 1
  | .agg parts => uptoBulkAll parts + 1
  | .iface _ d => uptoBulk d + 1
  | .map entries => uptoBulkEntries entries + 1
  | .held _ => 1
def uptoBulkAll {H : Type} : List (DataW H) → Nat
  | [] => 0
  | d :: r => uptoBulk d + uptoBulkAll r
def uptoBulkEntries {H : Type} : List (Lit × DataW H) → Nat
  | [] => 0
  | x :: r => uptoBulkEntry x + uptoBulkEntries r
def uptoBulkEntry {H : Type} : Lit × DataW H → Nat
  | (.string bytes, d) => bytes.length + uptoBulk d + 1
  | (_, d) => uptoBulk d + 1
 end
def uptoSmall : (H : Type) → List (DataW H) → Bool := fun _ ds => decide (uptoBulkAll ds ≤ 1048576)
def OpenSpec.upto (s : _root_.Go.ChangeSpec) : _root_.Go.OpenSpec := { _root_.Go.OpenSpec.ofChange s with cond := some uptoSmall }

/-- 'relucertlaw16.LowerGraph', WHERE WHAT IT READS IS OF BULK AT MOST 1048576: true; the input reads as it did. -/
def lowerGraphUptoRow : OpenClaim := { program := "ytfgmmghmmfmdgaagreat", sum := "b4532eeaa497854884c9ee274d32181b9486a76738b99f98865dfbfc141b8d2f", func := "relucert/relucertlaw16.LowerGraph", spec := "lowerGraph", unfollowed := true, recurses := true, apart := false, narrowed := true }
def LowerGraphUptoSaid : Prop := lowerGraphUptoRow.holds Tryz.pinned (OpenSpec.upto lowerGraphSpec)

/-- 'relucertlaw16.LowerOutputs', WHERE WHAT IT READS IS OF BULK AT MOST 1048576: true; the input reads as it did. -/
def lowerOutputsUptoRow : OpenClaim := { program := "ytfgmmghmmfmdgaagreat", sum := "b4532eeaa497854884c9ee274d32181b9486a76738b99f98865dfbfc141b8d2f", func := "relucert/relucertlaw16.LowerOutputs", spec := "lowerOutputs", unfollowed := true, recurses := true, apart := false, narrowed := true }
def LowerOutputsUptoSaid : Prop := lowerOutputsUptoRow.holds Tryz.pinned (OpenSpec.upto lowerOutputsSpec)

/-- 'relucertlaw16.LowerRelu', WHERE WHAT IT READS IS OF BULK AT MOST 1048576: true; the input reads as it did. -/
def lowerReluUptoRow : OpenClaim := { program := "ytfgmmghmmfmdgaagreat", sum := "b4532eeaa497854884c9ee274d32181b9486a76738b99f98865dfbfc141b8d2f", func := "relucert/relucertlaw16.LowerRelu", spec := "lowerRelu", unfollowed := true, recurses := true, apart := false, narrowed := true }
def LowerReluUptoSaid : Prop := lowerReluUptoRow.holds Tryz.pinned (OpenSpec.upto lowerReluSpec)

/-- 'relucertlaw16.LowerPrefix', WHERE WHAT IT READS IS OF BULK AT MOST 1048576: true; the input reads as it did. -/
def lowerPrefixUptoRow : OpenClaim := { program := "ytfgmmghmmfmdgaagreat", sum := "b4532eeaa497854884c9ee274d32181b9486a76738b99f98865dfbfc141b8d2f", func := "relucert/relucertlaw16.LowerPrefix", spec := "lowerPrefix", unfollowed := true, recurses := true, apart := false, narrowed := true }
def LowerPrefixUptoSaid : Prop := lowerPrefixUptoRow.holds Tryz.pinned (OpenSpec.upto lowerPrefixSpec)

/-- 'relucertlaw16.LowerMaximum', WHERE WHAT IT READS IS OF BULK AT MOST 1048576: true; the input reads as it did. -/
def lowerMaximumUptoRow : OpenClaim := { program := "ytfgmmghmmfmdgaagreat", sum := "b4532eeaa497854884c9ee274d32181b9486a76738b99f98865dfbfc141b8d2f", func := "relucert/relucertlaw16.LowerMaximum", spec := "lowerMaximum", unfollowed := true, recurses := true, apart := false, narrowed := true }
def LowerMaximumUptoSaid : Prop := lowerMaximumUptoRow.holds Tryz.pinned (OpenSpec.upto lowerMaximumSpec)

/-- 'relucertlaw16.LowerCount', WHERE WHAT IT READS IS OF BULK AT MOST 1048576: true; the input reads as it did. -/
def lowerCountUptoRow : OpenClaim := { program := "ytfgmmghmmfmdgaagreat", sum := "b4532eeaa497854884c9ee274d32181b9486a76738b99f98865dfbfc141b8d2f", func := "relucert/relucertlaw16.LowerCount", spec := "lowerCount", unfollowed := true, recurses := true, apart := false, narrowed := true }
def LowerCountUptoSaid : Prop := lowerCountUptoRow.holds Tryz.pinned (OpenSpec.upto lowerCountSpec)

/-- 'relucertlaw16.LowerLimits', WHERE WHAT IT READS IS OF BULK AT MOST 1048576: true; the input reads as it did. -/
def lowerLimitsUptoRow : OpenClaim := { program := "ytfgmmghmmfmdgaagreat", sum := "b4532eeaa497854884c9ee274d32181b9486a76738b99f98865dfbfc141b8d2f", func := "relucert/relucertlaw16.LowerLimits", spec := "lowerLimits", unfollowed := true, recurses := true, apart := false, narrowed := true }
def LowerLimitsUptoSaid : Prop := lowerLimitsUptoRow.holds Tryz.pinned (OpenSpec.upto lowerLimitsSpec)

end Rows
end Go.Proofs.YtfgmmghmmfmdgaaGreat

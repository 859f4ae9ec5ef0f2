/-
  No cell of these rows narrows 'for every input' (looked for: loops, veiled, ifaces, maps, wideKeys, modest, calm, conditions, laid).
  DERIVED. THE GIVEN ROWS OF THIS SEAT. 10 by the template 'for every input the law returns true; each argument reads behind the call as it read before'; 0 by the template 'total and deterministic' (their statements: YthlmgejikbmmaaaTotals.lean).
  GIVEN WITH THE SEED: the statements are not yours to turn. If you find one false, say at which input.
  Laid BY PROGRAM, IN A SANDBOX (cutbox-rows.mjs): the forced cells as the released guide's own fill.sh prints them over the translation b169db03cec4357e… (all of the seat's roots in one cut). By AI agents, Wed Nov 11 2026. No macro, syntax, notation, axiom, sorry.
-/
import Derived.Test.YthlmgejikbmmaaaChecked
import GoSem.Claim
import GoSem.ClaimJoined
import GoSem.ClaimMapViews
import Derived.JoinedTies
import Derived.KernelRfl
namespace Go.Proofs.Ythlmgejikbmmaaa
/- THE CELL 'sum', in the pinned program and in every row, IS THE sha256 OF THE DUMP (.gsa) THAT YthlmgejikbmmaaaProg.lean LOADS. Nothing in Lean hashes anything: it is a label: what it is worth is what the hold of that sum in a sandbox is worth. -/
noncomputable def Try.pinned : Pinned := { name := "ythlmgejikbmmaaa", sum := "b169db03cec4357e31c6cbe091c7644066cabab9d810acb73e4404f63086c7e7", checked := Try.checked }
namespace Rows
def none {H : Type} : Left H := { results := [], args := [] }

/-- 'relucertlaw13.ShapeOut': WHATEVER THE INPUT: true; the input reads as it did. -/
def shapeOutSpec : ChangeSpec := { name := "shapeOut", fn := fun _ => fun
  | [d1, d2, d3] => { results := [.lit (.bool true)], args := [d1, d2, d3] }
  | _ => none }
def shapeOutRow : OpenClaim := { program := "ythlmgejikbmmaaa", sum := "b169db03cec4357e31c6cbe091c7644066cabab9d810acb73e4404f63086c7e7", func := "relucert/relucertlaw13.ShapeOut", spec := "shapeOut", unfollowed := true, recurses := true, apart := false }
def ShapeOutSaid : Prop := shapeOutRow.holds Try.pinned (OpenSpec.ofChange shapeOutSpec)

/-- ITS FALSE NEIGHBOUR: 'it returns false'. Refute it at one input. -/
def shapeOutWrong : ChangeSpec := { name := "shapeOut", fn := fun _ => fun
  | [d1, d2, d3] => { results := [.lit (.bool false)], args := [d1, d2, d3] }
  | _ => none }
def ShapeOutWrongFalsely : Prop := shapeOutRow.holds Try.pinned (OpenSpec.ofChange shapeOutWrong)

/-- 'relucertlaw13.ShapeOf': WHATEVER THE INPUT: true; the input reads as it did. -/
def shapeOfSpec : ChangeSpec := { name := "shapeOf", fn := fun _ => fun
  | [d] => { results := [.lit (.bool true)], args := [d] }
  | _ => none }
def shapeOfRow : OpenClaim := { program := "ythlmgejikbmmaaa", sum := "b169db03cec4357e31c6cbe091c7644066cabab9d810acb73e4404f63086c7e7", func := "relucert/relucertlaw13.ShapeOf", spec := "shapeOf", unfollowed := true, recurses := true, apart := false }
def ShapeOfSaid : Prop := shapeOfRow.holds Try.pinned (OpenSpec.ofChange shapeOfSpec)

/-- ITS FALSE NEIGHBOUR: 'it returns false'. Refute it at one input. -/
def shapeOfWrong : ChangeSpec := { name := "shapeOf", fn := fun _ => fun
  | [d] => { results := [.lit (.bool false)], args := [d] }
  | _ => none }
def ShapeOfWrongFalsely : Prop := shapeOfRow.holds Try.pinned (OpenSpec.ofChange shapeOfWrong)

/-- 'relucertlaw13.ShapePrefix': WHATEVER THE INPUT: true; the input reads as it did. -/
def shapePrefixSpec : ChangeSpec := { name := "shapePrefix", fn := fun _ => fun
  | [d1, d2] => { results := [.lit (.bool true)], args := [d1, d2] }
  | _ => none }
def shapePrefixRow : OpenClaim := { program := "ythlmgejikbmmaaa", sum := "b169db03cec4357e31c6cbe091c7644066cabab9d810acb73e4404f63086c7e7", func := "relucert/relucertlaw13.ShapePrefix", spec := "shapePrefix", unfollowed := true, recurses := true, apart := false }
def ShapePrefixSaid : Prop := shapePrefixRow.holds Try.pinned (OpenSpec.ofChange shapePrefixSpec)

/-- ITS FALSE NEIGHBOUR: 'it returns false'. Refute it at one input. -/
def shapePrefixWrong : ChangeSpec := { name := "shapePrefix", fn := fun _ => fun
  | [d1, d2] => { results := [.lit (.bool false)], args := [d1, d2] }
  | _ => none }
def ShapePrefixWrongFalsely : Prop := shapePrefixRow.holds Try.pinned (OpenSpec.ofChange shapePrefixWrong)

/-- 'relucertlaw13.ShapeSizes': WHATEVER THE INPUT: true; the input reads as it did. -/
def shapeSizesSpec : ChangeSpec := { name := "shapeSizes", fn := fun _ => fun
  | [d] => { results := [.lit (.bool true)], args := [d] }
  | _ => none }
def shapeSizesRow : OpenClaim := { program := "ythlmgejikbmmaaa", sum := "b169db03cec4357e31c6cbe091c7644066cabab9d810acb73e4404f63086c7e7", func := "relucert/relucertlaw13.ShapeSizes", spec := "shapeSizes", unfollowed := true, recurses := true, apart := false }
def ShapeSizesSaid : Prop := shapeSizesRow.holds Try.pinned (OpenSpec.ofChange shapeSizesSpec)

/-- ITS FALSE NEIGHBOUR: 'it returns false'. Refute it at one input. -/
def shapeSizesWrong : ChangeSpec := { name := "shapeSizes", fn := fun _ => fun
  | [d] => { results := [.lit (.bool false)], args := [d] }
  | _ => none }
def ShapeSizesWrongFalsely : Prop := shapeSizesRow.holds Try.pinned (OpenSpec.ofChange shapeSizesWrong)

/-- 'relucertlaw13.ShapeAppended': WHATEVER THE INPUT: true; the input reads as it did. -/
def shapeAppendedSpec : ChangeSpec := { name := "shapeAppended", fn := fun _ => fun
  | [d1, d2] => { results := [.lit (.bool true)], args := [d1, d2] }
  | _ => none }
def shapeAppendedRow : OpenClaim := { program := "ythlmgejikbmmaaa", sum := "b169db03cec4357e31c6cbe091c7644066cabab9d810acb73e4404f63086c7e7", func := "relucert/relucertlaw13.ShapeAppended", spec := "shapeAppended", unfollowed := true, recurses := true, apart := false }
def ShapeAppendedSaid : Prop := shapeAppendedRow.holds Try.pinned (OpenSpec.ofChange shapeAppendedSpec)

/-- ITS FALSE NEIGHBOUR: 'it returns false'. Refute it at one input. -/
def shapeAppendedWrong : ChangeSpec := { name := "shapeAppended", fn := fun _ => fun
  | [d1, d2] => { results := [.lit (.bool false)], args := [d1, d2] }
  | _ => none }
def ShapeAppendedWrongFalsely : Prop := shapeAppendedRow.holds Try.pinned (OpenSpec.ofChange shapeAppendedWrong)

/-- 'relucertlaw54.KernelValid': WHATEVER THE INPUT: true; the input reads as it did. -/
def kernelValidSpec : ChangeSpec := { name := "kernelValid", fn := fun _ => fun
  | [d] => { results := [.lit (.bool true)], args := [d] }
  | _ => none }
def kernelValidRow : OpenClaim := { program := "ythlmgejikbmmaaa", sum := "b169db03cec4357e31c6cbe091c7644066cabab9d810acb73e4404f63086c7e7", func := "relucert/relucertlaw54.KernelValid", spec := "kernelValid", inPlace := ["math/bits.Add64"], unfollowed := true, recurses := true, apart := false }
def KernelValidSaid : Prop := kernelValidRow.holds Try.pinned (OpenSpec.ofChange kernelValidSpec)

/-- ITS FALSE NEIGHBOUR: 'it returns false'. Refute it at one input. -/
def kernelValidWrong : ChangeSpec := { name := "kernelValid", fn := fun _ => fun
  | [d] => { results := [.lit (.bool false)], args := [d] }
  | _ => none }
def KernelValidWrongFalsely : Prop := kernelValidRow.holds Try.pinned (OpenSpec.ofChange kernelValidWrong)

/-- 'relucertlaw54.KernelGathers': WHATEVER THE INPUT: true; the input reads as it did. -/
def kernelGathersSpec : ChangeSpec := { name := "kernelGathers", fn := fun _ => fun
  | [d1, d2, d3] => { results := [.lit (.bool true)], args := [d1, d2, d3] }
  | _ => none }
def kernelGathersRow : OpenClaim := { program := "ythlmgejikbmmaaa", sum := "b169db03cec4357e31c6cbe091c7644066cabab9d810acb73e4404f63086c7e7", func := "relucert/relucertlaw54.KernelGathers", spec := "kernelGathers", inPlace := ["math/bits.Add64"], unfollowed := true, recurses := true, apart := false }
def KernelGathersSaid : Prop := kernelGathersRow.holds Try.pinned (OpenSpec.ofChange kernelGathersSpec)

/-- ITS FALSE NEIGHBOUR: 'it returns false'. Refute it at one input. -/
def kernelGathersWrong : ChangeSpec := { name := "kernelGathers", fn := fun _ => fun
  | [d1, d2, d3] => { results := [.lit (.bool false)], args := [d1, d2, d3] }
  | _ => none }
def KernelGathersWrongFalsely : Prop := kernelGathersRow.holds Try.pinned (OpenSpec.ofChange kernelGathersWrong)

/-- 'relucertlaw54.KernelLinear': WHATEVER THE INPUT: true; the input reads as it did. -/
def kernelLinearSpec : ChangeSpec := { name := "kernelLinear", fn := fun _ => fun
  | [d1, d2, d3] => { results := [.lit (.bool true)], args := [d1, d2, d3] }
  | _ => none }
def kernelLinearRow : OpenClaim := { program := "ythlmgejikbmmaaa", sum := "b169db03cec4357e31c6cbe091c7644066cabab9d810acb73e4404f63086c7e7", func := "relucert/relucertlaw54.KernelLinear", spec := "kernelLinear", inPlace := ["math/bits.Add64"], unfollowed := true, recurses := true, apart := false }
def KernelLinearSaid : Prop := kernelLinearRow.holds Try.pinned (OpenSpec.ofChange kernelLinearSpec)

/-- ITS FALSE NEIGHBOUR: 'it returns false'. Refute it at one input. -/
def kernelLinearWrong : ChangeSpec := { name := "kernelLinear", fn := fun _ => fun
  | [d1, d2, d3] => { results := [.lit (.bool false)], args := [d1, d2, d3] }
  | _ => none }
def KernelLinearWrongFalsely : Prop := kernelLinearRow.holds Try.pinned (OpenSpec.ofChange kernelLinearWrong)

/-- 'relucertlaw54.KernelScale': WHATEVER THE INPUT: true; the input reads as it did. -/
def kernelScaleSpec : ChangeSpec := { name := "kernelScale", fn := fun _ => fun
  | [d1, d2, d3] => { results := [.lit (.bool true)], args := [d1, d2, d3] }
  | _ => none }
def kernelScaleRow : OpenClaim := { program := "ythlmgejikbmmaaa", sum := "b169db03cec4357e31c6cbe091c7644066cabab9d810acb73e4404f63086c7e7", func := "relucert/relucertlaw54.KernelScale", spec := "kernelScale", inPlace := ["math/bits.Add64"], unfollowed := true, recurses := true, apart := false }
def KernelScaleSaid : Prop := kernelScaleRow.holds Try.pinned (OpenSpec.ofChange kernelScaleSpec)

/-- ITS FALSE NEIGHBOUR: 'it returns false'. Refute it at one input. -/
def kernelScaleWrong : ChangeSpec := { name := "kernelScale", fn := fun _ => fun
  | [d1, d2, d3] => { results := [.lit (.bool false)], args := [d1, d2, d3] }
  | _ => none }
def KernelScaleWrongFalsely : Prop := kernelScaleRow.holds Try.pinned (OpenSpec.ofChange kernelScaleWrong)

/-- 'relucertlaw54.KernelTiled': WHATEVER THE INPUT: true; the input reads as it did. -/
def kernelTiledSpec : ChangeSpec := { name := "kernelTiled", fn := fun _ => fun
  | [d1, d2, d3] => { results := [.lit (.bool true)], args := [d1, d2, d3] }
  | _ => none }
def kernelTiledRow : OpenClaim := { program := "ythlmgejikbmmaaa", sum := "b169db03cec4357e31c6cbe091c7644066cabab9d810acb73e4404f63086c7e7", func := "relucert/relucertlaw54.KernelTiled", spec := "kernelTiled", inPlace := ["math/bits.Add64"], unfollowed := true, recurses := true, apart := false }
def KernelTiledSaid : Prop := kernelTiledRow.holds Try.pinned (OpenSpec.ofChange kernelTiledSpec)

/-- ITS FALSE NEIGHBOUR: 'it returns false'. Refute it at one input. -/
def kernelTiledWrong : ChangeSpec := { name := "kernelTiled", fn := fun _ => fun
  | [d1, d2, d3] => { results := [.lit (.bool false)], args := [d1, d2, d3] }
  | _ => none }
def KernelTiledWrongFalsely : Prop := kernelTiledRow.holds Try.pinned (OpenSpec.ofChange kernelTiledWrong)

/- THE SECOND FORM. 'bulk': how many values and letters a reading holds, each counted each time it is reached (what is shared counts as often as it is met; a slice's spare places count too). A statement '..UptoSaid' is the law's where the arguments, and the package variables that the reading takes, are together of bulk at most 1048576: NARROWER than '..Said'. Prove '..Said' where nothing that the law and all that it calls make is longer than what came in: it says more and counts as full. Else prove '..UptoSaid'. A law counts once. -/
mutual
def uptoBulk {H : Type} : DataW H → Nat
  | .lit (.string bytes) => bytes.length + 1
  | .lit _ => 1
  | .nil => 1
  | .ptr d => uptoBulk d + 1
  | .slice elems spare => uptoBulkAll elems + uptoBulkAll spare + 1
  | .agg parts => uptoBulkAll parts + 1
  | .iface _ d => uptoBulk d + 1
  | .map entries => uptoBulkEntries entries + 1
  | .held _ => 1
def uptoBulkAll {H : Type} : List (DataW H) → Nat
  | [] => 0
  | d :: r => uptoBulk d + uptoBulkAll r
def uptoBulkEntries {H : Type} : List (Lit × DataW H) → Nat
  | [] => 0
  | x :: r => uptoBulkEntry x + uptoBulkEntries r
def uptoBulkEntry {H : Type} : Lit × DataW H → Nat
  | (.string bytes, d) => bytes.length + uptoBulk d + 1
  | (_, d) => uptoBulk d + 1
 end
def uptoSmall : (H : Type) → List (DataW H) → Bool := fun _ ds => decide (uptoBulkAll ds ≤ 1048576)
def OpenSpec.upto (s : _root_.Go.ChangeSpec) : _root_.Go.OpenSpec := { _root_.Go.OpenSpec.ofChange s with cond := some uptoSmall }

/-- 'relucertlaw13.ShapeOut', WHERE WHAT IT READS IS OF BULK AT MOST 1048576: true; the input reads as it did. -/
def shapeOutUptoRow : OpenClaim := { program := "ythlmgejikbmmaaa", sum := "b169db03cec4357e31c6cbe091c7644066cabab9d810acb73e4404f63086c7e7", func := "relucert/relucertlaw13.ShapeOut", spec := "shapeOut", unfollowed := true, recurses := true, apart := false, narrowed := true }
def ShapeOutUptoSaid : Prop := shapeOutUptoRow.holds Try.pinned (OpenSpec.upto shapeOutSpec)

/-- 'relucertlaw13.ShapeOf', WHERE WHAT IT READS IS OF BULK AT MOST 1048576: true; the input reads as it did. -/
def shapeOfUptoRow : OpenClaim := { program := "ythlmgejikbmmaaa", sum := "b169db03cec4357e31c6cbe091c7644066cabab9d810acb73e4404f63086c7e7", func := "relucert/relucertlaw13.ShapeOf", spec := "shapeOf", unfollowed := true, recurses := true, apart := false, narrowed := true }
def ShapeOfUptoSaid : Prop := shapeOfUptoRow.holds Try.pinned (OpenSpec.upto shapeOfSpec)

/-- 'relucertlaw13.ShapePrefix', WHERE WHAT IT READS IS OF BULK AT MOST 1048576: true; the input reads as it did. -/
def shapePrefixUptoRow : OpenClaim := { program := "ythlmgejikbmmaaa", sum := "b169db03cec4357e31c6cbe091c7644066cabab9d810acb73e4404f63086c7e7", func := "relucert/relucertlaw13.ShapePrefix", spec := "shapePrefix", unfollowed := true, recurses := true, apart := false, narrowed := true }
def ShapePrefixUptoSaid : Prop := shapePrefixUptoRow.holds Try.pinned (OpenSpec.upto shapePrefixSpec)

/-- 'relucertlaw13.ShapeSizes', WHERE WHAT IT READS IS OF BULK AT MOST 1048576: true; the input reads as it did. -/
def shapeSizesUptoRow : OpenClaim := { program := "ythlmgejikbmmaaa", sum := "b169db03cec4357e31c6cbe091c7644066cabab9d810acb73e4404f63086c7e7", func := "relucert/relucertlaw13.ShapeSizes", spec := "shapeSizes", unfollowed := true, recurses := true, apart := false, narrowed := true }
def ShapeSizesUptoSaid : Prop := shapeSizesUptoRow.holds Try.pinned (OpenSpec.upto shapeSizesSpec)

/-- 'relucertlaw13.ShapeAppended', WHERE WHAT IT READS IS OF BULK AT MOST 1048576: true; the input reads as it did. -/
def shapeAppendedUptoRow : OpenClaim := { program := "ythlmgejikbmmaaa", sum := "b169db03cec4357e31c6cbe091c7644066cabab9d810acb73e4404f63086c7e7", func := "relucert/relucertlaw13.ShapeAppended", spec := "shapeAppended", unfollowed := true, recurses := true, apart := false, narrowed := true }
def ShapeAppendedUptoSaid : Prop := shapeAppendedUptoRow.holds Try.pinned (OpenSpec.upto shapeAppendedSpec)

/-- 'relucertlaw54.KernelValid', WHERE WHAT IT READS IS OF BULK AT MOST 1048576: true; the input reads as it did. -/
def kernelValidUptoRow : OpenClaim := { program := "ythlmgejikbmmaaa", sum := "b169db03cec4357e31c6cbe091c7644066cabab9d810acb73e4404f63086c7e7", func := "relucert/relucertlaw54.KernelValid", spec := "kernelValid", inPlace := ["math/bits.Add64"], unfollowed := true, recurses := true, apart := false, narrowed := true }
def KernelValidUptoSaid : Prop := kernelValidUptoRow.holds Try.pinned (OpenSpec.upto kernelValidSpec)

/-- 'relucertlaw54.KernelGathers', WHERE WHAT IT READS IS OF BULK AT MOST 1048576: true; the input reads as it did. -/
def kernelGathersUptoRow : OpenClaim := { program := "ythlmgejikbmmaaa", sum := "b169db03cec4357e31c6cbe091c7644066cabab9d810acb73e4404f63086c7e7", func := "relucert/relucertlaw54.KernelGathers", spec := "kernelGathers", inPlace := ["math/bits.Add64"], unfollowed := true, recurses := true, apart := false, narrowed := true }
def KernelGathersUptoSaid : Prop := kernelGathersUptoRow.holds Try.pinned (OpenSpec.upto kernelGathersSpec)

/-- 'relucertlaw54.KernelLinear', WHERE WHAT IT READS IS OF BULK AT MOST 1048576: true; the input reads as it did. -/
def kernelLinearUptoRow : OpenClaim := { program := "ythlmgejikbmmaaa", sum := "b169db03cec4357e31c6cbe091c7644066cabab9d810acb73e4404f63086c7e7", func := "relucert/relucertlaw54.KernelLinear", spec := "kernelLinear", inPlace := ["math/bits.Add64"], unfollowed := true, recurses := true, apart := false, narrowed := true }
def KernelLinearUptoSaid : Prop := kernelLinearUptoRow.holds Try.pinned (OpenSpec.upto kernelLinearSpec)

/-- 'relucertlaw54.KernelScale', WHERE WHAT IT READS IS OF BULK AT MOST 1048576: true; the input reads as it did. -/
def kernelScaleUptoRow : OpenClaim := { program := "ythlmgejikbmmaaa", sum := "b169db03cec4357e31c6cbe091c7644066cabab9d810acb73e4404f63086c7e7", func := "relucert/relucertlaw54.KernelScale", spec := "kernelScale", inPlace := ["math/bits.Add64"], unfollowed := true, recurses := true, apart := false, narrowed := true }
def KernelScaleUptoSaid : Prop := kernelScaleUptoRow.holds Try.pinned (OpenSpec.upto kernelScaleSpec)

/-- 'relucertlaw54.KernelTiled', WHERE WHAT IT READS IS OF BULK AT MOST 1048576: true; the input reads as it did. -/
def kernelTiledUptoRow : OpenClaim := { program := "ythlmgejikbmmaaa", sum := "b169db03cec4357e31c6cbe091c7644066cabab9d810acb73e4404f63086c7e7", func := "relucert/relucertlaw54.KernelTiled", spec := "kernelTiled", inPlace := ["math/bits.Add64"], unfollowed := true, recurses := true, apart := false, narrowed := true }
def KernelTiledUptoSaid : Prop := kernelTiledUptoRow.holds Try.pinned (OpenSpec.upto kernelTiledSpec)

end Rows
end Go.Proofs.Ythlmgejikbmmaaa

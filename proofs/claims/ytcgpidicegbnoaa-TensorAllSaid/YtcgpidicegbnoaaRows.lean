/-
  No cell of these rows narrows 'for every input' (looked for: loops, veiled, ifaces, maps, wideKeys, modest, calm, conditions, laid).
  DERIVED. THE GIVEN ROWS OF THIS SEAT. 13 by the template 'for every input the law returns true; each argument reads behind the call as it read before'; 0 by the template 'total and deterministic' (their statements: YtcgpidicegbnoaaTotals.lean).
  GIVEN WITH THE SEED: the statements are not yours to turn. If you find one false, say at which input.
  Laid BY PROGRAM, IN A SANDBOX (cutbox-rows.mjs): the forced cells as the released guide's own fill.sh prints them over the translation 0a6d18dce67f6fa1… (all of the seat's roots in one cut). By AI agents, Wed Nov 11 2026. No macro, syntax, notation, axiom, sorry.
-/
import Derived.Test.YtcgpidicegbnoaaChecked
import GoSem.Claim
import GoSem.ClaimJoined
import GoSem.ClaimMapViews
import Derived.JoinedTies
import Derived.KernelRfl
namespace Go.Proofs.Ytcgpidicegbnoaa
/- THE CELL 'sum', in the pinned program and in every row, IS THE sha256 OF THE DUMP (.gsa) THAT YtcgpidicegbnoaaProg.lean LOADS. Nothing in Lean hashes anything: it is a label: what it is worth is what the hold of that sum in a sandbox is worth. -/
noncomputable def Try.pinned : Pinned := { name := "ytcgpidicegbnoaa", sum := "0a6d18dce67f6fa1ae73126d3b9391f5134beebf10fe6af2cbdf285d06dcc9aa", checked := Try.checked }
namespace Rows
def none {H : Type} : Left H := { results := [], args := [] }

/-- 'relucertlaw11.TensorIndex': WHATEVER THE INPUT: true; the input reads as it did. -/
def tensorIndexSpec : ChangeSpec := { name := "tensorIndex", fn := fun _ => fun
  | [d1, d2] => { results := [.lit (.bool true)], args := [d1, d2] }
  | _ => none }
def tensorIndexRow : OpenClaim := { program := "ytcgpidicegbnoaa", sum := "0a6d18dce67f6fa1ae73126d3b9391f5134beebf10fe6af2cbdf285d06dcc9aa", func := "relucert/relucertlaw11.TensorIndex", spec := "tensorIndex", apart := false }
def TensorIndexSaid : Prop := tensorIndexRow.holds Try.pinned (OpenSpec.ofChange tensorIndexSpec)

/-- ITS FALSE NEIGHBOUR: 'it returns false'. Refute it at one input. -/
def tensorIndexWrong : ChangeSpec := { name := "tensorIndex", fn := fun _ => fun
  | [d1, d2] => { results := [.lit (.bool false)], args := [d1, d2] }
  | _ => none }
def TensorIndexWrongFalsely : Prop := tensorIndexRow.holds Try.pinned (OpenSpec.ofChange tensorIndexWrong)

/-- 'relucertlaw11.TensorWindows': WHATEVER THE INPUT: true; the input reads as it did. -/
def tensorWindowsSpec : ChangeSpec := { name := "tensorWindows", fn := fun _ => fun
  | [d] => { results := [.lit (.bool true)], args := [d] }
  | _ => none }
def tensorWindowsRow : OpenClaim := { program := "ytcgpidicegbnoaa", sum := "0a6d18dce67f6fa1ae73126d3b9391f5134beebf10fe6af2cbdf285d06dcc9aa", func := "relucert/relucertlaw11.TensorWindows", spec := "tensorWindows", apart := false }
def TensorWindowsSaid : Prop := tensorWindowsRow.holds Try.pinned (OpenSpec.ofChange tensorWindowsSpec)

/-- ITS FALSE NEIGHBOUR: 'it returns false'. Refute it at one input. -/
def tensorWindowsWrong : ChangeSpec := { name := "tensorWindows", fn := fun _ => fun
  | [d] => { results := [.lit (.bool false)], args := [d] }
  | _ => none }
def TensorWindowsWrongFalsely : Prop := tensorWindowsRow.holds Try.pinned (OpenSpec.ofChange tensorWindowsWrong)

/-- 'relucertlaw11.TensorCover': WHATEVER THE INPUT: true; the input reads as it did. -/
def tensorCoverSpec : ChangeSpec := { name := "tensorCover", fn := fun _ => fun
  | [d] => { results := [.lit (.bool true)], args := [d] }
  | _ => none }
def tensorCoverRow : OpenClaim := { program := "ytcgpidicegbnoaa", sum := "0a6d18dce67f6fa1ae73126d3b9391f5134beebf10fe6af2cbdf285d06dcc9aa", func := "relucert/relucertlaw11.TensorCover", spec := "tensorCover", apart := false }
def TensorCoverSaid : Prop := tensorCoverRow.holds Try.pinned (OpenSpec.ofChange tensorCoverSpec)

/-- ITS FALSE NEIGHBOUR: 'it returns false'. Refute it at one input. -/
def tensorCoverWrong : ChangeSpec := { name := "tensorCover", fn := fun _ => fun
  | [d] => { results := [.lit (.bool false)], args := [d] }
  | _ => none }
def TensorCoverWrongFalsely : Prop := tensorCoverRow.holds Try.pinned (OpenSpec.ofChange tensorCoverWrong)

/-- 'relucertlaw11.TensorNext': WHATEVER THE INPUT: true; the input reads as it did. -/
def tensorNextSpec : ChangeSpec := { name := "tensorNext", fn := fun _ => fun
  | [d] => { results := [.lit (.bool true)], args := [d] }
  | _ => none }
def tensorNextRow : OpenClaim := { program := "ytcgpidicegbnoaa", sum := "0a6d18dce67f6fa1ae73126d3b9391f5134beebf10fe6af2cbdf285d06dcc9aa", func := "relucert/relucertlaw11.TensorNext", spec := "tensorNext", apart := false }
def TensorNextSaid : Prop := tensorNextRow.holds Try.pinned (OpenSpec.ofChange tensorNextSpec)

/-- ITS FALSE NEIGHBOUR: 'it returns false'. Refute it at one input. -/
def tensorNextWrong : ChangeSpec := { name := "tensorNext", fn := fun _ => fun
  | [d] => { results := [.lit (.bool false)], args := [d] }
  | _ => none }
def TensorNextWrongFalsely : Prop := tensorNextRow.holds Try.pinned (OpenSpec.ofChange tensorNextWrong)

/-- 'relucertlaw11.TensorValid': WHATEVER THE INPUT: true; the input reads as it did. -/
def tensorValidSpec : ChangeSpec := { name := "tensorValid", fn := fun _ => fun
  | [d] => { results := [.lit (.bool true)], args := [d] }
  | _ => none }
def tensorValidRow : OpenClaim := { program := "ytcgpidicegbnoaa", sum := "0a6d18dce67f6fa1ae73126d3b9391f5134beebf10fe6af2cbdf285d06dcc9aa", func := "relucert/relucertlaw11.TensorValid", spec := "tensorValid", apart := false }
def TensorValidSaid : Prop := tensorValidRow.holds Try.pinned (OpenSpec.ofChange tensorValidSpec)

/-- ITS FALSE NEIGHBOUR: 'it returns false'. Refute it at one input. -/
def tensorValidWrong : ChangeSpec := { name := "tensorValid", fn := fun _ => fun
  | [d] => { results := [.lit (.bool false)], args := [d] }
  | _ => none }
def TensorValidWrongFalsely : Prop := tensorValidRow.holds Try.pinned (OpenSpec.ofChange tensorValidWrong)

/-- 'relucertlaw11.TensorAt': WHATEVER THE INPUT: true; the input reads as it did. -/
def tensorAtSpec : ChangeSpec := { name := "tensorAt", fn := fun _ => fun
  | [d1, d2] => { results := [.lit (.bool true)], args := [d1, d2] }
  | _ => none }
def tensorAtRow : OpenClaim := { program := "ytcgpidicegbnoaa", sum := "0a6d18dce67f6fa1ae73126d3b9391f5134beebf10fe6af2cbdf285d06dcc9aa", func := "relucert/relucertlaw11.TensorAt", spec := "tensorAt", apart := false }
def TensorAtSaid : Prop := tensorAtRow.holds Try.pinned (OpenSpec.ofChange tensorAtSpec)

/-- ITS FALSE NEIGHBOUR: 'it returns false'. Refute it at one input. -/
def tensorAtWrong : ChangeSpec := { name := "tensorAt", fn := fun _ => fun
  | [d1, d2] => { results := [.lit (.bool false)], args := [d1, d2] }
  | _ => none }
def TensorAtWrongFalsely : Prop := tensorAtRow.holds Try.pinned (OpenSpec.ofChange tensorAtWrong)

/-- 'relucertlaw11.TensorInverse': WHATEVER THE INPUT: true; the input reads as it did. -/
def tensorInverseSpec : ChangeSpec := { name := "tensorInverse", fn := fun _ => fun
  | [d] => { results := [.lit (.bool true)], args := [d] }
  | _ => none }
def tensorInverseRow : OpenClaim := { program := "ytcgpidicegbnoaa", sum := "0a6d18dce67f6fa1ae73126d3b9391f5134beebf10fe6af2cbdf285d06dcc9aa", func := "relucert/relucertlaw11.TensorInverse", spec := "tensorInverse", apart := false }
def TensorInverseSaid : Prop := tensorInverseRow.holds Try.pinned (OpenSpec.ofChange tensorInverseSpec)

/-- ITS FALSE NEIGHBOUR: 'it returns false'. Refute it at one input. -/
def tensorInverseWrong : ChangeSpec := { name := "tensorInverse", fn := fun _ => fun
  | [d] => { results := [.lit (.bool false)], args := [d] }
  | _ => none }
def TensorInverseWrongFalsely : Prop := tensorInverseRow.holds Try.pinned (OpenSpec.ofChange tensorInverseWrong)

/-- 'relucertlaw11.TensorAll': WHATEVER THE INPUT: true; the input reads as it did. -/
def tensorAllSpec : ChangeSpec := { name := "tensorAll", fn := fun _ => fun
  | [d1, d2] => { results := [.lit (.bool true)], args := [d1, d2] }
  | _ => none }
def tensorAllRow : OpenClaim := { program := "ytcgpidicegbnoaa", sum := "0a6d18dce67f6fa1ae73126d3b9391f5134beebf10fe6af2cbdf285d06dcc9aa", func := "relucert/relucertlaw11.TensorAll", spec := "tensorAll", unfollowed := true, recurses := true, apart := false }
def TensorAllSaid : Prop := tensorAllRow.holds Try.pinned (OpenSpec.ofChange tensorAllSpec)

/-- ITS FALSE NEIGHBOUR: 'it returns false'. Refute it at one input. -/
def tensorAllWrong : ChangeSpec := { name := "tensorAll", fn := fun _ => fun
  | [d1, d2] => { results := [.lit (.bool false)], args := [d1, d2] }
  | _ => none }
def TensorAllWrongFalsely : Prop := tensorAllRow.holds Try.pinned (OpenSpec.ofChange tensorAllWrong)

/-- 'relucertlaw53.Im2colGather': WHATEVER THE INPUT: true; the input reads as it did. -/
def im2colGatherSpec : ChangeSpec := { name := "im2colGather", fn := fun _ => fun
  | [d1, d2] => { results := [.lit (.bool true)], args := [d1, d2] }
  | _ => none }
def im2colGatherRow : OpenClaim := { program := "ytcgpidicegbnoaa", sum := "0a6d18dce67f6fa1ae73126d3b9391f5134beebf10fe6af2cbdf285d06dcc9aa", func := "relucert/relucertlaw53.Im2colGather", spec := "im2colGather", unfollowed := true, recurses := true, apart := false }
def Im2colGatherSaid : Prop := im2colGatherRow.holds Try.pinned (OpenSpec.ofChange im2colGatherSpec)

/-- ITS FALSE NEIGHBOUR: 'it returns false'. Refute it at one input. -/
def im2colGatherWrong : ChangeSpec := { name := "im2colGather", fn := fun _ => fun
  | [d1, d2] => { results := [.lit (.bool false)], args := [d1, d2] }
  | _ => none }
def Im2colGatherWrongFalsely : Prop := im2colGatherRow.holds Try.pinned (OpenSpec.ofChange im2colGatherWrong)

/-- 'relucertlaw53.Im2colPool': WHATEVER THE INPUT: true; the input reads as it did. -/
def im2colPoolSpec : ChangeSpec := { name := "im2colPool", fn := fun _ => fun
  | [d1, d2] => { results := [.lit (.bool true)], args := [d1, d2] }
  | _ => none }
def im2colPoolRow : OpenClaim := { program := "ytcgpidicegbnoaa", sum := "0a6d18dce67f6fa1ae73126d3b9391f5134beebf10fe6af2cbdf285d06dcc9aa", func := "relucert/relucertlaw53.Im2colPool", spec := "im2colPool", unfollowed := true, recurses := true, apart := false }
def Im2colPoolSaid : Prop := im2colPoolRow.holds Try.pinned (OpenSpec.ofChange im2colPoolSpec)

/-- ITS FALSE NEIGHBOUR: 'it returns false'. Refute it at one input. -/
def im2colPoolWrong : ChangeSpec := { name := "im2colPool", fn := fun _ => fun
  | [d1, d2] => { results := [.lit (.bool false)], args := [d1, d2] }
  | _ => none }
def Im2colPoolWrongFalsely : Prop := im2colPoolRow.holds Try.pinned (OpenSpec.ofChange im2colPoolWrong)

/-- 'relucertlaw53.Im2colDifferent': WHATEVER THE INPUT: true; the input reads as it did. -/
def im2colDifferentSpec : ChangeSpec := { name := "im2colDifferent", fn := fun _ => fun
  | [d1, d2] => { results := [.lit (.bool true)], args := [d1, d2] }
  | _ => none }
def im2colDifferentRow : OpenClaim := { program := "ytcgpidicegbnoaa", sum := "0a6d18dce67f6fa1ae73126d3b9391f5134beebf10fe6af2cbdf285d06dcc9aa", func := "relucert/relucertlaw53.Im2colDifferent", spec := "im2colDifferent", unfollowed := true, recurses := true, apart := false }
def Im2colDifferentSaid : Prop := im2colDifferentRow.holds Try.pinned (OpenSpec.ofChange im2colDifferentSpec)

/-- ITS FALSE NEIGHBOUR: 'it returns false'. Refute it at one input. -/
def im2colDifferentWrong : ChangeSpec := { name := "im2colDifferent", fn := fun _ => fun
  | [d1, d2] => { results := [.lit (.bool false)], args := [d1, d2] }
  | _ => none }
def Im2colDifferentWrongFalsely : Prop := im2colDifferentRow.holds Try.pinned (OpenSpec.ofChange im2colDifferentWrong)

/-- 'relucertlaw53.Im2colTiles': WHATEVER THE INPUT: true; the input reads as it did. -/
def im2colTilesSpec : ChangeSpec := { name := "im2colTiles", fn := fun _ => fun
  | [d1, d2] => { results := [.lit (.bool true)], args := [d1, d2] }
  | _ => none }
def im2colTilesRow : OpenClaim := { program := "ytcgpidicegbnoaa", sum := "0a6d18dce67f6fa1ae73126d3b9391f5134beebf10fe6af2cbdf285d06dcc9aa", func := "relucert/relucertlaw53.Im2colTiles", spec := "im2colTiles", unfollowed := true, recurses := true, apart := false }
def Im2colTilesSaid : Prop := im2colTilesRow.holds Try.pinned (OpenSpec.ofChange im2colTilesSpec)

/-- ITS FALSE NEIGHBOUR: 'it returns false'. Refute it at one input. -/
def im2colTilesWrong : ChangeSpec := { name := "im2colTiles", fn := fun _ => fun
  | [d1, d2] => { results := [.lit (.bool false)], args := [d1, d2] }
  | _ => none }
def Im2colTilesWrongFalsely : Prop := im2colTilesRow.holds Try.pinned (OpenSpec.ofChange im2colTilesWrong)

/-- 'relucertlaw53.Im2colCover': WHATEVER THE INPUT: true; the input reads as it did. -/
def im2colCoverSpec : ChangeSpec := { name := "im2colCover", fn := fun _ => fun
  | [d1, d2, d3] => { results := [.lit (.bool true)], args := [d1, d2, d3] }
  | _ => none }
def im2colCoverRow : OpenClaim := { program := "ytcgpidicegbnoaa", sum := "0a6d18dce67f6fa1ae73126d3b9391f5134beebf10fe6af2cbdf285d06dcc9aa", func := "relucert/relucertlaw53.Im2colCover", spec := "im2colCover", unfollowed := true, recurses := true, apart := false }
def Im2colCoverSaid : Prop := im2colCoverRow.holds Try.pinned (OpenSpec.ofChange im2colCoverSpec)

/-- ITS FALSE NEIGHBOUR: 'it returns false'. Refute it at one input. -/
def im2colCoverWrong : ChangeSpec := { name := "im2colCover", fn := fun _ => fun
  | [d1, d2, d3] => { results := [.lit (.bool false)], args := [d1, d2, d3] }
  | _ => none }
def Im2colCoverWrongFalsely : Prop := im2colCoverRow.holds Try.pinned (OpenSpec.ofChange im2colCoverWrong)

/- THE SECOND FORM. 'bulk': how many values and letters a reading holds, each counted each time it is reached (what is shared counts as often as it is met; a slice's spare places count too). A statement '..UptoSaid' is the law's where the arguments, and the package variables that the reading takes, are together of bulk at most 1048576: NARROWER than '..Said'. Prove '..Said' where nothing that the law and all that it calls make is longer than what came in: it says more and counts as full. Else prove '..UptoSaid'. A law counts once. -/
mutual
def uptoBulk {H : Type} : DataW H → Nat
  | .lit (.string bytes) => bytes.length + 1
  | .lit _ => 1
  | .nil => 1
  | .ptr d => uptoBulk d + 1
  | .slice elems spare => uptoBulkAll elems + uptoBulkAll spare + 1
  | .agg parts => uptoBulkAll parts + 1
  | .iface _ d => uptoBulk d + 1
  | .map entries => uptoBulkEntries entries + 1
  | .held _ => 1
def uptoBulkAll {H : Type} : List (DataW H) → Nat
  | [] => 0
  | d :: r => uptoBulk d + uptoBulkAll r
def uptoBulkEntries {H : Type} : List (Lit × DataW H) → Nat
  | [] => 0
  | x :: r => uptoBulkEntry x + uptoBulkEntries r
def uptoBulkEntry {H : Type} : Lit × DataW H → Nat
  | (.string bytes, d) => bytes.length + uptoBulk d + 1
  | (_, d) => uptoBulk d + 1
 end
def uptoSmall : (H : Type) → List (DataW H) → Bool := fun _ ds => decide (uptoBulkAll ds ≤ 1048576)
def OpenSpec.upto (s : _root_.Go.ChangeSpec) : _root_.Go.OpenSpec := { _root_.Go.OpenSpec.ofChange s with cond := some uptoSmall }

/-- 'relucertlaw11.TensorIndex', WHERE WHAT IT READS IS OF BULK AT MOST 1048576: true; the input reads as it did. -/
def tensorIndexUptoRow : OpenClaim := { program := "ytcgpidicegbnoaa", sum := "0a6d18dce67f6fa1ae73126d3b9391f5134beebf10fe6af2cbdf285d06dcc9aa", func := "relucert/relucertlaw11.TensorIndex", spec := "tensorIndex", apart := false, narrowed := true }
def TensorIndexUptoSaid : Prop := tensorIndexUptoRow.holds Try.pinned (OpenSpec.upto tensorIndexSpec)

/-- 'relucertlaw11.TensorWindows', WHERE WHAT IT READS IS OF BULK AT MOST 1048576: true; the input reads as it did. -/
def tensorWindowsUptoRow : OpenClaim := { program := "ytcgpidicegbnoaa", sum := "0a6d18dce67f6fa1ae73126d3b9391f5134beebf10fe6af2cbdf285d06dcc9aa", func := "relucert/relucertlaw11.TensorWindows", spec := "tensorWindows", apart := false, narrowed := true }
def TensorWindowsUptoSaid : Prop := tensorWindowsUptoRow.holds Try.pinned (OpenSpec.upto tensorWindowsSpec)

/-- 'relucertlaw11.TensorCover', WHERE WHAT IT READS IS OF BULK AT MOST 1048576: true; the input reads as it did. -/
def tensorCoverUptoRow : OpenClaim := { program := "ytcgpidicegbnoaa", sum := "0a6d18dce67f6fa1ae73126d3b9391f5134beebf10fe6af2cbdf285d06dcc9aa", func := "relucert/relucertlaw11.TensorCover", spec := "tensorCover", apart := false, narrowed := true }
def TensorCoverUptoSaid : Prop := tensorCoverUptoRow.holds Try.pinned (OpenSpec.upto tensorCoverSpec)

/-- 'relucertlaw11.TensorNext', WHERE WHAT IT READS IS OF BULK AT MOST 1048576: true; the input reads as it did. -/
def tensorNextUptoRow : OpenClaim := { program := "ytcgpidicegbnoaa", sum := "0a6d18dce67f6fa1ae73126d3b9391f5134beebf10fe6af2cbdf285d06dcc9aa", func := "relucert/relucertlaw11.TensorNext", spec := "tensorNext", apart := false, narrowed := true }
def TensorNextUptoSaid : Prop := tensorNextUptoRow.holds Try.pinned (OpenSpec.upto tensorNextSpec)

/-- 'relucertlaw11.TensorValid', WHERE WHAT IT READS IS OF BULK AT MOST 1048576: true; the input reads as it did. -/
def tensorValidUptoRow : OpenClaim := { program := "ytcgpidicegbnoaa", sum := "0a6d18dce67f6fa1ae73126d3b9391f5134beebf10fe6af2cbdf285d06dcc9aa", func := "relucert/relucertlaw11.TensorValid", spec := "tensorValid", apart := false, narrowed := true }
def TensorValidUptoSaid : Prop := tensorValidUptoRow.holds Try.pinned (OpenSpec.upto tensorValidSpec)

/-- 'relucertlaw11.TensorAt', WHERE WHAT IT READS IS OF BULK AT MOST 1048576: true; the input reads as it did. -/
def tensorAtUptoRow : OpenClaim := { program := "ytcgpidicegbnoaa", sum := "0a6d18dce67f6fa1ae73126d3b9391f5134beebf10fe6af2cbdf285d06dcc9aa", func := "relucert/relucertlaw11.TensorAt", spec := "tensorAt", apart := false, narrowed := true }
def TensorAtUptoSaid : Prop := tensorAtUptoRow.holds Try.pinned (OpenSpec.upto tensorAtSpec)

/-- 'relucertlaw11.TensorInverse', WHERE WHAT IT READS IS OF BULK AT MOST 1048576: true; the input reads as it did. -/
def tensorInverseUptoRow : OpenClaim := { program := "ytcgpidicegbnoaa", sum := "0a6d18dce67f6fa1ae73126d3b9391f5134beebf10fe6af2cbdf285d06dcc9aa", func := "relucert/relucertlaw11.TensorInverse", spec := "tensorInverse", apart := false, narrowed := true }
def TensorInverseUptoSaid : Prop := tensorInverseUptoRow.holds Try.pinned (OpenSpec.upto tensorInverseSpec)

/-- 'relucertlaw11.TensorAll', WHERE WHAT IT READS IS OF BULK AT MOST 1048576: true; the input reads as it did. -/
def tensorAllUptoRow : OpenClaim := { program := "ytcgpidicegbnoaa", sum := "0a6d18dce67f6fa1ae73126d3b9391f5134beebf10fe6af2cbdf285d06dcc9aa", func := "relucert/relucertlaw11.TensorAll", spec := "tensorAll", unfollowed := true, recurses := true, apart := false, narrowed := true }
def TensorAllUptoSaid : Prop := tensorAllUptoRow.holds Try.pinned (OpenSpec.upto tensorAllSpec)

/-- 'relucertlaw53.Im2colGather', WHERE WHAT IT READS IS OF BULK AT MOST 1048576: true; the input reads as it did. -/
def im2colGatherUptoRow : OpenClaim := { program := "ytcgpidicegbnoaa", sum := "0a6d18dce67f6fa1ae73126d3b9391f5134beebf10fe6af2cbdf285d06dcc9aa", func := "relucert/relucertlaw53.Im2colGather", spec := "im2colGather", unfollowed := true, recurses := true, apart := false, narrowed := true }
def Im2colGatherUptoSaid : Prop := im2colGatherUptoRow.holds Try.pinned (OpenSpec.upto im2colGatherSpec)

/-- 'relucertlaw53.Im2colPool', WHERE WHAT IT READS IS OF BULK AT MOST 1048576: true; the input reads as it did. -/
def im2colPoolUptoRow : OpenClaim := { program := "ytcgpidicegbnoaa", sum := "0a6d18dce67f6fa1ae73126d3b9391f5134beebf10fe6af2cbdf285d06dcc9aa", func := "relucert/relucertlaw53.Im2colPool", spec := "im2colPool", unfollowed := true, recurses := true, apart := false, narrowed := true }
def Im2colPoolUptoSaid : Prop := im2colPoolUptoRow.holds Try.pinned (OpenSpec.upto im2colPoolSpec)

/-- 'relucertlaw53.Im2colDifferent', WHERE WHAT IT READS IS OF BULK AT MOST 1048576: true; the input reads as it did. -/
def im2colDifferentUptoRow : OpenClaim := { program := "ytcgpidicegbnoaa", sum := "0a6d18dce67f6fa1ae73126d3b9391f5134beebf10fe6af2cbdf285d06dcc9aa", func := "relucert/relucertlaw53.Im2colDifferent", spec := "im2colDifferent", unfollowed := true, recurses := true, apart := false, narrowed := true }
def Im2colDifferentUptoSaid : Prop := im2colDifferentUptoRow.holds Try.pinned (OpenSpec.upto im2colDifferentSpec)

/-- 'relucertlaw53.Im2colTiles', WHERE WHAT IT READS IS OF BULK AT MOST 1048576: true; the input reads as it did. -/
def im2colTilesUptoRow : OpenClaim := { program := "ytcgpidicegbnoaa", sum := "0a6d18dce67f6fa1ae73126d3b9391f5134beebf10fe6af2cbdf285d06dcc9aa", func := "relucert/relucertlaw53.Im2colTiles", spec := "im2colTiles", unfollowed := true, recurses := true, apart := false, narrowed := true }
def Im2colTilesUptoSaid : Prop := im2colTilesUptoRow.holds Try.pinned (OpenSpec.upto im2colTilesSpec)

/-- 'relucertlaw53.Im2colCover', WHERE WHAT IT READS IS OF BULK AT MOST 1048576: true; the input reads as it did. -/
def im2colCoverUptoRow : OpenClaim := { program := "ytcgpidicegbnoaa", sum := "0a6d18dce67f6fa1ae73126d3b9391f5134beebf10fe6af2cbdf285d06dcc9aa", func := "relucert/relucertlaw53.Im2colCover", spec := "im2colCover", unfollowed := true, recurses := true, apart := false, narrowed := true }
def Im2colCoverUptoSaid : Prop := im2colCoverUptoRow.holds Try.pinned (OpenSpec.upto im2colCoverSpec)

end Rows
end Go.Proofs.Ytcgpidicegbnoaa

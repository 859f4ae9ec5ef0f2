/-
  Contracts of the functions that the statements reach, in the order in which they are built: OpenW.
-/
import Derived.Test.YthlmgejikbmmaaaS21
set_option linter.unusedVariables false
set_option linter.unusedSimpArgs false
set_option linter.constructorNameAsVariable false
set_option linter.deprecated false

/-
  Opening a parameter [][]int.
-/
namespace Go.Proofs.Ythlmgejikbmmaaa
open Go.RowKit Go.ChangeShapes Go.WideShapes Go.ChangeAt Go.Deep

section
variable {H : Type} {enc : TypeId × Value → H} {w : World} {base : Nat} {spare : Nat → Bool} {held : Bool}
set_option maxRecDepth 100000 in
theorem open_shapes {r : Reach} {b0 : Nat} {v : Value} {d : DataW H} {p : List MemPlace} (hv : Value.okWide Try.prog w r b0 23 v)
    (h : DataW.Trod enc Try.prog w base spare held 23 v d p) : ∃ a L c, v = .slice a (List.length L) c ∧ Intss w Any a L := by
  obtain ⟨a0, len0, cap0, rfl⟩ := okWide_slice Try.underlying23 hv
  obtain ⟨fuel, hf⟩ := h
  obtain ⟨a, L, k, e, _, hL⟩ := open_intss (c := .slice a0 len0 cap0) hf
  exact ⟨a, L, k, e, hL⟩
set_option maxRecDepth 100000 in
theorem open_row13 {r : Reach} {b0 : Nat} {v : Value} {d : DataW H} {p : List MemPlace} (hv : Value.okWide Try.prog w r b0 22 v)
    (h : DataW.Trod enc Try.prog w base spare held 22 v d p) : ∃ a l c, v = .slice a (List.length l) c ∧ Ints w Any a l := by
  obtain ⟨a0, len0, cap0, rfl⟩ := okWide_slice Try.underlying22 hv
  obtain ⟨fuel, hf⟩ := h
  obtain ⟨a, l, c, hcs, hI, _⟩ := open_ints64 Try.underlying22 Try.underlying3 Try.cellsInt1 hf
  simp [Value.cells] at hcs
  obtain ⟨rfl, rfl, rfl⟩ := hcs
  exact ⟨_, _, _, rfl, hI⟩
end

end Go.Proofs.Ythlmgejikbmmaaa

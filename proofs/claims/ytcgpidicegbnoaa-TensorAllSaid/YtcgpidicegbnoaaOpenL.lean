/-
  Opening a shape and a Layer (layer 53's statements): a slice of integers; seven integers and two slices.
-/
import Derived.Test.YtcgpidicegbnoaaOpen
import Derived.Test.YtcgpidicegbnoaaColSpec
namespace Go.Proofs.Ytcgpidicegbnoaa
open Go.RowKit Go.ChangeShapes Go.WideShapes Go.ChangeAt Go.Deep

theorem list9 {α : Type} {l : List α} (h : l.length = 9) : ∃ a b c d e f g i j, l = [a, b, c, d, e, f, g, i, j] := by
  match l, h with
  | [a, b, c, d, e, f, g, i, j], _ => exact ⟨a, b, c, d, e, f, g, i, j, rfl⟩

theorem Try.cellsInt' : Try.prog.cellsOf 3 = 1 := by kernel_rfl
theorem Try.layer_parts : ∃ f0 f1 f2 f3 f4 f5 f6 f7 f8 : Field, Try.prog.underlying 44 = some (.struct #[f0, f1, f2, f3, f4, f5, f6, f7, f8]) ∧ oneCellFields Try.prog #[f0, f1, f2, f3, f4, f5, f6, f7, f8] = true ∧
    f0.type = 3 ∧ f1.type = 3 ∧ f2.type = 3 ∧ f3.type = 3 ∧ f4.type = 3 ∧ f5.type = 3 ∧ f6.type = 3 ∧ (∃ e, Try.prog.underlying f7.type = some (.slice e)) ∧ ∃ e, Try.prog.underlying f8.type = some (.slice e) :=
  ⟨_, _, _, _, _, _, _, _, _, Try.underlying44, by kernel_rfl, rfl, rfl, rfl, rfl, rfl, rfl, rfl, ⟨88, by kernel_rfl⟩, ⟨88, by kernel_rfl⟩⟩

section
variable {H : Type} {enc : TypeId × Value → H} {w : World} {base : Nat} {spare : Nat → Bool} {held : Bool}
theorem open_shape {r : Reach} {b0 : Nat} {v : Value} {d : DataW H} {p : List MemPlace} (hv : Value.okWide Try.prog w r b0 22 v)
    (h : DataW.Trod enc Try.prog w base spare held 22 v d p) : ∃ a l c, v = .slice a (List.length l) c ∧ Ints w Any a l := by
  obtain ⟨a0, len0, cap0, rfl⟩ := okWide_slice Try.underlying22 hv
  obtain ⟨fuel, hf⟩ := h
  obtain ⟨a, l, c, hcs, hI, _⟩ := open_ints64 Try.underlying22 Try.underlying3 Try.cellsInt' hf
  simp [Value.cells] at hcs
  obtain ⟨rfl, rfl, rfl⟩ := hcs
  exact ⟨_, _, _, rfl, hI⟩
theorem open_layer {r : Reach} {b0 : Nat} {v : Value} {d : DataW H} {p : List MemPlace} (hv : Value.okWide Try.prog w r b0 44 v)
    (h : DataW.Trod enc Try.prog w base spare held 44 v d p) :
    ∃ kind fr o kh kw s q aw nw cw ab nb cb, v = layerV kind fr o kh kw s q aw nw cw ab nb cb := by
  obtain ⟨f0, f1, f2, f3, f4, f5, f6, f7, f8, hs, hone, t0, t1, t2, t3, t4, t5, t6, ⟨e7', t7⟩, ⟨e8', t8⟩⟩ := Try.layer_parts
  obtain ⟨cs, ys, n, rfl, hcl, hyl, hd, hf⟩ := open_struct hs hone (by kernel_rfl) hv h
  obtain ⟨v0, v1, v2, v3, v4, v5, v6, v7, v8, rfl⟩ := list9 hcl
  obtain ⟨c0, y0, e0, _, h0⟩ := hf 0 f0 rfl
  obtain ⟨c1, y1, e1, _, h1⟩ := hf 1 f1 rfl
  obtain ⟨c2, y2, e2, _, h2⟩ := hf 2 f2 rfl
  obtain ⟨c3, y3, e3, _, h3⟩ := hf 3 f3 rfl
  obtain ⟨c4, y4, e4, _, h4⟩ := hf 4 f4 rfl
  obtain ⟨c5, y5, e5, _, h5⟩ := hf 5 f5 rfl
  obtain ⟨c6, y6, e6, _, h6⟩ := hf 6 f6 rfl
  obtain ⟨c7, y7, e7, _, h7⟩ := hf 7 f7 rfl
  obtain ⟨c8, y8, e8, _, h8⟩ := hf 8 f8 rfl
  simp only [List.getElem?_cons_zero, List.getElem?_cons_succ, Option.some.injEq] at e0 e1 e2 e3 e4 e5 e6 e7 e8
  subst e0 e1 e2 e3 e4 e5 e6 e7 e8
  rw [t0] at h0
  rw [t1] at h1
  rw [t2] at h2
  rw [t3] at h3
  rw [t4] at h4
  rw [t5] at h5
  rw [t6] at h6
  obtain ⟨n0, rfl, _⟩ := open_i64 Try.underlying3 h0
  obtain ⟨n1, rfl, _⟩ := open_i64 Try.underlying3 h1
  obtain ⟨n2, rfl, _⟩ := open_i64 Try.underlying3 h2
  obtain ⟨n3, rfl, _⟩ := open_i64 Try.underlying3 h3
  obtain ⟨n4, rfl, _⟩ := open_i64 Try.underlying3 h4
  obtain ⟨n5, rfl, _⟩ := open_i64 Try.underlying3 h5
  obtain ⟨n6, rfl, _⟩ := open_i64 Try.underlying3 h6
  obtain ⟨a7, m7, k7, rfl⟩ := open_slice1 t7 h7
  obtain ⟨a8, m8, k8, rfl⟩ := open_slice1 t8 h8
  exact ⟨_, _, _, _, _, _, _, _, _, _, _, _, _, rfl⟩
end

end Go.Proofs.Ytcgpidicegbnoaa

/-
  Opening the parameters of layer 53's statements on tiles: a struct of four integers, a byte, an array of two integers.
-/
import Derived.Test.YtcgpidicegbnoaaOpen
import Derived.Test.YtcgpidicegbnoaaOpenL
namespace Go.Proofs.Ytcgpidicegbnoaa
open Go.RowKit Go.ChangeShapes Go.WideShapes Go.ChangeAt Go.Deep

theorem list4 {α : Type} {l : List α} (h : l.length = 4) : ∃ a b c d, l = [a, b, c, d] := by
  match l, h with
  | [a, b, c, d], _ => exact ⟨a, b, c, d, rfl⟩

theorem Try.matrix_parts : ∃ f0 f1 f2 f3 : Field, Try.prog.underlying 51 = some (.struct #[f0, f1, f2, f3]) ∧ oneCellFields Try.prog #[f0, f1, f2, f3] = true ∧
    f0.type = 3 ∧ f1.type = 3 ∧ f2.type = 3 ∧ f3.type = 3 :=
  ⟨_, _, _, _, Try.underlying51, by kernel_rfl, rfl, rfl, rfl, rfl⟩

section
variable {H : Type} {enc : TypeId × Value → H} {P : Program} {w : World} {base : Nat} {spare : Nat → Bool} {held : Bool}

theorem open_u8 {t : TypeId} {fuel : Nat} {c : Value} {x : DataW H × List MemPlace} (ht : P.underlying t = some (.int .u8)) (h : DataW.trod enc P w base spare held fuel t [c] = some x) :
    ∃ n : Nat, c = .int .u8 n ∧ n ≤ 255 := by
  obtain ⟨n, h1, _, h2⟩ := DataW.trod_int ht h
  simp [Lit.wf, IntKind.min, IntKind.max, IntKind.bits, IntKind.signed] at h2
  refine ⟨n.toNat, ?_, by omega⟩
  rw [Int.toNat_of_nonneg (by omega)]
  simpa using h1

theorem open_matrix {r : Reach} {b0 : Nat} {v : Value} {d : DataW H} {p : List MemPlace} (hv : Value.okWide Try.prog w r b0 51 v)
    (h : DataW.Trod enc Try.prog w base spare held 51 v d p) :
    ∃ m0 m1 m2 m3 : Int, v = .agg #[.int .i64 m0, .int .i64 m1, .int .i64 m2, .int .i64 m3] ∧ (-9223372036854775808 ≤ m0 ∧ m0 ≤ 9223372036854775807) ∧ (-9223372036854775808 ≤ m1 ∧ m1 ≤ 9223372036854775807) ∧
      (-9223372036854775808 ≤ m2 ∧ m2 ≤ 9223372036854775807) ∧ (-9223372036854775808 ≤ m3 ∧ m3 ≤ 9223372036854775807) := by
  obtain ⟨f0, f1, f2, f3, hs, hone, t0, t1, t2, t3⟩ := Try.matrix_parts
  obtain ⟨cs, ys, n, rfl, hcl, hyl, hd, hf⟩ := open_struct hs hone (by kernel_rfl) hv h
  obtain ⟨v0, v1, v2, v3, rfl⟩ := list4 hcl
  obtain ⟨c0, y0, e0, _, h0⟩ := hf 0 f0 rfl
  obtain ⟨c1, y1, e1, _, h1⟩ := hf 1 f1 rfl
  obtain ⟨c2, y2, e2, _, h2⟩ := hf 2 f2 rfl
  obtain ⟨c3, y3, e3, _, h3⟩ := hf 3 f3 rfl
  simp only [List.getElem?_cons_zero, List.getElem?_cons_succ, Option.some.injEq] at e0 e1 e2 e3
  subst e0 e1 e2 e3
  rw [t0] at h0
  rw [t1] at h1
  rw [t2] at h2
  rw [t3] at h3
  obtain ⟨n0, rfl, b0⟩ := open_i64 Try.underlying3 h0
  obtain ⟨n1, rfl, b1⟩ := open_i64 Try.underlying3 h1
  obtain ⟨n2, rfl, b2⟩ := open_i64 Try.underlying3 h2
  obtain ⟨n3, rfl, b3⟩ := open_i64 Try.underlying3 h3
  exact ⟨n0, n1, n2, n3, rfl, b0, b1, b2, b3⟩

theorem open_pair {r : Reach} {b0 : Nat} {v : Value} {d : DataW H} {p : List MemPlace} (hv : Value.okWide Try.prog w r b0 61 v)
    (h : DataW.Trod enc Try.prog w base spare held 61 v d p) :
    ∃ m0 m1 : Int, v = .agg #[.int .i64 m0, .int .i64 m1] ∧ (-9223372036854775808 ≤ m0 ∧ m0 ≤ 9223372036854775807) ∧ (-9223372036854775808 ≤ m1 ∧ m1 ≤ 9223372036854775807) := by
  simp only [Value.okWide, Try.underlying61] at hv
  obtain ⟨cs, rfl, hcs, _⟩ := hv
  obtain ⟨fuel, hf⟩ := h
  obtain ⟨xs, m, _, hx, hcl, hxl, hi⟩ := DataW.trod_array Try.underlying61 hf
  obtain ⟨l⟩ := cs
  have hl : l.length = 2 := by have e : Try.prog.cellsOf 61 = 2 := by kernel_rfl
                               simpa [e] using hcs
  match l, hl with
  | [c0, c1], _ =>
    match xs, hxl with
    | [y0, y1], _ =>
      have h0 := hi 0 (by omega)
      have h1 := hi 1 (by omega)
      have e : Try.prog.cellsOf 3 = 1 := by kernel_rfl
      rw [e] at h0 h1
      obtain ⟨n0, e0, b0⟩ := open_i64 (c := c0) (x := y0) Try.underlying3 (by simpa [Value.cells] using h0)
      obtain ⟨n1, e1, b1⟩ := open_i64 (c := c1) (x := y1) Try.underlying3 (by simpa [Value.cells] using h1)
      subst e0
      subst e1
      exact ⟨n0, n1, rfl, b0, b1⟩
end

end Go.Proofs.Ytcgpidicegbnoaa

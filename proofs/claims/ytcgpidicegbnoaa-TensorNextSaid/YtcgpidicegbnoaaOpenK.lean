/-
  Opening a parameter of type Kernel (layer 11's statements): a slice of integers and four integers.
-/
import Derived.Test.YtcgpidicegbnoaaOpen
import Derived.Test.YtcgpidicegbnoaaTenM
namespace Go.Proofs.Ytcgpidicegbnoaa
open Go.RowKit Go.ChangeShapes Go.WideShapes Go.ChangeAt Go.Deep

theorem list5 {α : Type} {l : List α} (h : l.length = 5) : ∃ a b c d e, l = [a, b, c, d, e] := by
  match l, h with
  | [a, b, c, d, e], _ => exact ⟨a, b, c, d, e, rfl⟩

theorem Try.bytesInt : Try.prog.bytesOf 3 = 8 := by kernel_rfl
theorem Try.cellsInt : Try.prog.cellsOf 3 = 1 := by kernel_rfl

theorem Try.kernel_parts : ∃ f0 f1 f2 f3 f4 : Field, Try.prog.underlying 29 = some (.struct #[f0, f1, f2, f3, f4]) ∧ oneCellFields Try.prog #[f0, f1, f2, f3, f4] = true ∧
    f0.type = 22 ∧ f1.type = 3 ∧ f2.type = 3 ∧ f3.type = 3 ∧ f4.type = 3 :=
  ⟨_, _, _, _, _, Try.underlying29, by kernel_rfl, rfl, rfl, rfl, rfl, rfl⟩

section
variable {H : Type} {enc : TypeId × Value → H} {w : World} {base : Nat} {spare : Nat → Bool} {held : Bool}
theorem open_kernel {r : Reach} {b0 : Nat} {v : Value} {d : DataW H} {p : List MemPlace} (hv : Value.okWide Try.prog w r b0 29 v)
    (h : DataW.Trod enc Try.prog w base spare held 29 v d p) :
    ∃ a l c kh kw s q, v = kernelV a l.length c kh kw s q ∧ Ints w Any a l ∧
      ((DataW.weightsEach Try.prog [29] [d]).all (· ≤ reachBytes) = true → l.length * 8 ≤ 140737488351232) := by
  obtain ⟨f0, f1, f2, f3, f4, hs, hone, t0, t1, t2, t3, t4⟩ := Try.kernel_parts
  obtain ⟨cs, ys, n, rfl, hcl, hyl, hd, hf⟩ := open_struct hs hone (by kernel_rfl) hv h
  obtain ⟨v0, v1, v2, v3, v4, rfl⟩ := list5 hcl
  obtain ⟨c0, y0, e0, z0, h0⟩ := hf 0 f0 rfl
  obtain ⟨c1, y1, e1, _, h1⟩ := hf 1 f1 rfl
  obtain ⟨c2, y2, e2, _, h2⟩ := hf 2 f2 rfl
  obtain ⟨c3, y3, e3, _, h3⟩ := hf 3 f3 rfl
  obtain ⟨c4, y4, e4, _, h4⟩ := hf 4 f4 rfl
  simp only [List.getElem?_cons_zero, List.getElem?_cons_succ, Option.some.injEq] at e0 e1 e2 e3 e4
  subst e0 e1 e2 e3 e4
  rw [t0] at h0
  rw [t1] at h1
  rw [t2] at h2
  rw [t3] at h3
  rw [t4] at h4
  obtain ⟨a, l, c, ha, hI, _, hx⟩ := open_ints64 Try.underlying22 Try.underlying3 Try.cellsInt h0
  obtain ⟨n1, rfl, _⟩ := open_i64 Try.underlying3 h1
  obtain ⟨n2, rfl, _⟩ := open_i64 Try.underlying3 h2
  obtain ⟨n3, rfl, _⟩ := open_i64 Try.underlying3 h3
  obtain ⟨n4, rfl, _⟩ := open_i64 Try.underlying3 h4
  simp only [List.cons.injEq, and_true] at ha
  subst ha
  refine ⟨a, l, c, n1, n2, n3, n4, rfl, hI, fun hz => ?_⟩
  rcases hx with ⟨_, rfl⟩ | ⟨E, S, hE, hlen⟩
  · simp
  · subst hd
    have h5 := sized_fields hz (j := 0) rfl rfl hs
    have h6 : (ys.map (·.1))[0]? = some (.slice E S) := by rw [List.getElem?_map, z0]; simp [hE]
    have h7 := sized_slice h5 (j := 0) (t := 22) (e := 3) (by simp [t0]) h6 Try.underlying22
    rw [Try.bytesInt] at h7
    simp only [reachBytes] at h7
    omega
end

end Go.Proofs.Ytcgpidicegbnoaa

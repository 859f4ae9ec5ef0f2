/-
  Contracts of the functions that the statements reach, in the order in which they are built: OpenX.
-/
import Derived.Test.YtfmhedfiklidhaaM9
import Derived.Test.YtfmhedfiklidhaaM10
import Derived.ChangeMaps5
set_option linter.unusedVariables false
set_option linter.unusedSimpArgs false
set_option linter.constructorNameAsVariable false
set_option linter.deprecated false

/-
  Opening the parameters of layer 4's statements: a rational, a text, a Long.
-/
namespace Go.Proofs.Ytfmhedfiklidhaa
open Go.RowKit Go.ChangeShapes Go.WideShapes Go.ChangeAt Go.Deep Go.ChangeMaps

theorem Try.cellsLong : Try.prog.cellsOf 35 = 5 := by kernel_rfl
theorem Try.long_parts : ∃ f0 f1 f2 f3 f4 : Field, Try.prog.underlying 35 = some (.struct #[f0, f1, f2, f3, f4]) ∧ oneCellFields Try.prog #[f0, f1, f2, f3, f4] = true ∧ f0.type = 4 ∧ f1.type = 3 ∧ f2.type = 3 ∧ f3.type = 5 ∧ f4.type = 9 :=
  ⟨_, _, _, _, _, Try.underlying35, by kernel_rfl, rfl, rfl, rfl, rfl, rfl⟩
theorem list5' {α : Type} {l : List α} (h : l.length = 5) : ∃ a b c d e, l = [a, b, c, d, e] := by
  match l, h with
  | [a, b, c, d, e], _ => exact ⟨a, b, c, d, e, rfl⟩
theorem openU8 {H : Type} {enc : TypeId × Value → H} {P : Program} {w : World} {base : Nat} {spare : Nat → Bool} {held : Bool} {t : TypeId} {fuel : Nat} {c : Value} {x : DataW H × List MemPlace} (ht : P.underlying t = some (.int .u8)) (h : DataW.trod enc P w base spare held fuel t [c] = some x) :
    ∃ n : Nat, c = .int .u8 n ∧ n ≤ 255 := by
  obtain ⟨n, h1, _, h2⟩ := DataW.trod_int ht h
  simp [Lit.wf, IntKind.min, IntKind.max, IntKind.bits, IntKind.signed] at h2
  refine ⟨n.toNat, ?_, by omega⟩
  rw [Int.toNat_of_nonneg (by omega)]
  simpa using h1

section
variable {H : Type} {enc : TypeId × Value → H} {w : World} {base : Nat} {spare : Nat → Bool} {held : Bool}
set_option maxRecDepth 100000 in
theorem open_rat {r : Reach} {b0 : Nat} {v : Value} {d : DataW H} {p : List MemPlace} (hv : Value.okWide Try.prog w r b0 25 v)
    (h : DataW.Trod enc Try.prog w base spare held 25 v d p) : ∃ x, RatV w v x := by
  obtain ⟨f0, f1, f2, hs, hone, t0, t1, t2⟩ := Try.rat_parts
  obtain ⟨cs, ys, n, rfl, hcl, hyl, hd, hf⟩ := open_struct hs hone (by kernel_rfl) hv h
  obtain ⟨v0, v1, v2, rfl⟩ := list3' hcl
  obtain ⟨c0, y0, e0, _, g0⟩ := hf 0 f0 rfl
  obtain ⟨c1, y1, e1, _, g1⟩ := hf 1 f1 rfl
  obtain ⟨c2, y2, e2, _, g2⟩ := hf 2 f2 rfl
  simp only [List.getElem?_cons_zero, List.getElem?_cons_succ, Option.some.injEq] at e0 e1 e2
  subst e0 e1 e2
  rw [t0] at g0
  rw [t1] at g1
  rw [t2] at g2
  obtain ⟨neg, hn, _⟩ := DataW.trod_bool Try.underlying4 g0
  simp only [List.cons.injEq, and_true] at hn
  subst hn
  obtain ⟨an, num, kn, rfl, hkn, un⟩ := open_u32s Try.underlying23 Try.underlying83 Try.cellsU32 g1
  obtain ⟨ad, den, kd, rfl, hkd, ud⟩ := open_u32s Try.underlying23 Try.underlying83 Try.cellsU32 g2
  exact ⟨⟨neg, num, den⟩, ⟨an, ad, kn, kd, rfl, hkn, hkd, un, ud⟩⟩
set_option maxRecDepth 100000 in
theorem open_text {r : Reach} {b0 : Nat} {v : Value} {d : DataW H} {p : List MemPlace} (hv : Value.okWide Try.prog w r b0 9 v)
    (h : DataW.Trod enc Try.prog w base spare held 9 v d p) : ∃ L, v = .string (Str L) ∧ L.length ≤ 9223372036854775807 := by
  obtain ⟨s, rfl, _, _, hs⟩ := open_string Try.underlying9 hv h
  refine ⟨s.data.toList, by rw [← Str_of], ?_⟩
  have : s.data.toList.length = s.size := by rw [Array.length_toList]; rfl
  unfold maxLen at hs
  omega
set_option maxRecDepth 100000 in
theorem open_long {r : Reach} {b0 : Nat} {v : Value} {d : DataW H} {p : List MemPlace} (hv : Value.okWide Try.prog w r b0 35 v)
    (h : DataW.Trod enc Try.prog w base spare held 35 v d p) : ∃ (neg : Bool) (fr tt : Int) (sep : Nat) (L : List UInt8), v = .agg #[.bool neg, .int .i64 fr, .int .i64 tt, .int .u8 (sep : Int), .string (Str L)] ∧ sep ≤ 255 ∧ L.length ≤ 9223372036854775807 := by
  obtain ⟨f0, f1, f2, f3, f4, hs, hone, t0, t1, t2, t3, t4⟩ := Try.long_parts
  obtain ⟨cs, ys, n, rfl, hcl, hyl, hd, hf⟩ := open_struct hs hone (by kernel_rfl) hv h
  obtain ⟨v0, v1, v2, v3, v4, rfl⟩ := list5' hcl
  obtain ⟨c0, y0, e0, _, g0⟩ := hf 0 f0 rfl
  obtain ⟨c1, y1, e1, _, g1⟩ := hf 1 f1 rfl
  obtain ⟨c2, y2, e2, _, g2⟩ := hf 2 f2 rfl
  obtain ⟨c3, y3, e3, _, g3⟩ := hf 3 f3 rfl
  obtain ⟨c4, y4, e4, _, g4⟩ := hf 4 f4 rfl
  simp only [List.getElem?_cons_zero, List.getElem?_cons_succ, Option.some.injEq] at e0 e1 e2 e3 e4
  subst e0 e1 e2 e3 e4
  rw [t0] at g0
  rw [t1] at g1
  rw [t2] at g2
  rw [t3] at g3
  rw [t4] at g4
  obtain ⟨neg, hn, _⟩ := DataW.trod_bool Try.underlying4 g0
  simp only [List.cons.injEq, and_true] at hn
  subst hn
  obtain ⟨n1, rfl, _⟩ := open_i64 Try.underlying3 g1
  obtain ⟨n2, rfl, _⟩ := open_i64 Try.underlying3 g2
  obtain ⟨n3, rfl, k3⟩ := openU8 Try.underlying5 g3
  obtain ⟨s, hs4, _, hk⟩ := DataW.trod_string Try.underlying9 g4
  simp only [List.cons.injEq, and_true] at hs4
  subst hs4
  refine ⟨neg, n1, n2, n3, s.data.toList, by rw [← Str_of], k3, ?_⟩
  have : s.data.toList.length = s.size := by rw [Array.length_toList]; rfl
  unfold maxLen at hk
  omega
end

end Go.Proofs.Ytfmhedfiklidhaa

/-
  Contracts of the functions that the statement reaches: OpenS.
-/
import Derived.Test.YtoppijdedkdjeaaGreatG9
import Derived.Test.YtoppijdedkdjeaaGreatG10
set_option linter.unusedVariables false
set_option linter.unusedSimpArgs false
set_option linter.constructorNameAsVariable false
set_option linter.deprecated false
set_option maxRecDepth 100000
set_option maxHeartbeats 3200000
namespace Go.Proofs.YtoppijdedkdjeaaGreat
open Go.RowKit Go.ChangeShapes Go.WideShapes Go.ChangeAt Go.Deep
open Go.Lib (hid)
theorem list9' {α : Type} {l : List α} (h : l.length = 9) : ∃ a b c d e f g i j, l = [a, b, c, d, e, f, g, i, j] := by
 match l, h with
 | [a, b, c, d, e, f, g, i, j], _ => exact ⟨a, b, c, d, e, f, g, i, j, rfl⟩
theorem list2' {α : Type} {l : List α} (h : l.length = 2) : ∃ a b, l = [a, b] := by
 match l, h with
 | [a, b], _ => exact ⟨a, b, rfl⟩
section
variable {H : Type} {enc : TypeId × Value -> H} {w : World} {base : Nat} {spare : Nat -> Bool} {held : Bool}
theorem Tryz.layL_parts : ∃ f0 f1 f2 f3 f4 f5 f6 f7 f8 : Field, Tryz.prog.underlying 42 = some (.struct #[f0, f1, f2, f3, f4, f5, f6, f7, f8]) /\ oneCellFields Tryz.prog #[f0, f1, f2, f3, f4, f5, f6, f7, f8] = true /\
  f0.type = 3 /\ f1.type = 3 /\ f2.type = 3 /\ f3.type = 3 /\ f4.type = 3 /\ f5.type = 3 /\ f6.type = 3 /\ f7.type = 26 /\ f8.type = 26 :=
 ⟨_, _, _, _, _, _, _, _, _, Tryz.underlying42, by kernel_rfl, rfl, rfl, rfl, rfl, rfl, rfl, rfl, rfl, rfl⟩
theorem Tryz.model_parts : ∃ f0 f1 : Field, Tryz.prog.underlying 25 = some (.struct #[f0, f1]) /\ oneCellFields Tryz.prog #[f0, f1] = true /\ f0.type = 22 /\ f1.type = 23 :=
 ⟨_, _, Tryz.underlying25, by kernel_rfl, rfl, rfl⟩
def LayRange (x : LayL) : Prop := (I64 x.kind /\ I64 x.frm /\ I64 x.out /\ I64 x.kh) /\ I64 x.kw /\ I64 x.stride /\ I64 x.pad
theorem open_layer_cells {cs : List Value} {n : Nat} {f0 f1 f2 f3 f4 f5 f6 f7 f8 : Field} (hcl : cs.length = 9)
  (t0 : f0.type = 3) (t1 : f1.type = 3) (t2 : f2.type = 3) (t3 : f3.type = 3) (t4 : f4.type = 3) (t5 : f5.type = 3) (t6 : f6.type = 3) (t7 : f7.type = 26) (t8 : f8.type = 26)
  (hf : ∀ (j : Nat) (f : Field), #[f0, f1, f2, f3, f4, f5, f6, f7, f8][j]? = some f -> ∃ c y, cs[j]? = some c /\ DataW.trod enc Tryz.prog w base spare held n f.type [c] = some y) :
  ∃ (x : LayL) (a1 a2 : Option Addr) (c1 c2 : Nat), cs = [.int .i64 x.kind, .int .i64 x.frm, .int .i64 x.out, .int .i64 x.kh, .int .i64 x.kw, .int .i64 x.stride, .int .i64 x.pad, .slice a1 x.weights.length c1, .slice a2 x.bias.length c2] /\ RatsAt w a1 x.weights /\ RatsAt w a2 x.bias /\ LayRange x := by
 obtain ⟨v0, v1, v2, v3, v4, v5, v6, v7, v8, rfl⟩ := list9' hcl
 obtain ⟨c0, y0, e0, g0⟩ := hf 0 f0 rfl
 obtain ⟨c1, y1, e1, g1⟩ := hf 1 f1 rfl
 obtain ⟨c2, y2, e2, g2⟩ := hf 2 f2 rfl
 obtain ⟨c3, y3, e3, g3⟩ := hf 3 f3 rfl
 obtain ⟨c4, y4, e4, g4⟩ := hf 4 f4 rfl
 obtain ⟨c5, y5, e5, g5⟩ := hf 5 f5 rfl
 obtain ⟨c6, y6, e6, g6⟩ := hf 6 f6 rfl
 obtain ⟨c7, y7, e7, g7⟩ := hf 7 f7 rfl
 obtain ⟨c8, y8, e8, g8⟩ := hf 8 f8 rfl
 simp only [List.getElem?_cons_zero, List.getElem?_cons_succ, Option.some.injEq] at e0 e1 e2 e3 e4 e5 e6 e7 e8
 subst e0 e1 e2 e3 e4 e5 e6 e7 e8
 rw [t0] at g0
 rw [t1] at g1
 rw [t2] at g2
 rw [t3] at g3
 rw [t4] at g4
 rw [t5] at g5
 rw [t6] at g6
 rw [t7] at g7
 rw [t8] at g8
 obtain ⟨n0, rfl, k0⟩ := open_i64 Tryz.underlying3 g0
 obtain ⟨n1, rfl, k1⟩ := open_i64 Tryz.underlying3 g1
 obtain ⟨n2, rfl, k2⟩ := open_i64 Tryz.underlying3 g2
 obtain ⟨n3, rfl, k3⟩ := open_i64 Tryz.underlying3 g3
 obtain ⟨n4, rfl, k4⟩ := open_i64 Tryz.underlying3 g4
 obtain ⟨n5, rfl, k5⟩ := open_i64 Tryz.underlying3 g5
 obtain ⟨n6, rfl, k6⟩ := open_i64 Tryz.underlying3 g6
 obtain ⟨a7, l7, m7, rfl, i7⟩ := open_rats g7
 obtain ⟨a8, l8, m8, rfl, i8⟩ := open_rats g8
 exact ⟨⟨n0, n1, n2, n3, n4, n5, n6, l7, l8⟩, a7, a8, m7, m8, rfl, i7, i8, ⟨⟨k0, k1, k2, k3⟩, k4, k5, k6⟩⟩
theorem open_layers {fuel : Nat} {c : Value} {x : DataW H × List MemPlace} (h : DataW.trod enc Tryz.prog w base spare held fuel 23 [c] = some x) : ∃ a L k, c = .slice a (List.length L) k /\ L.length <= k /\ LaysAt w a L /\ ∀ o ∈ L, LayRange o := by
 obtain ⟨f0, f1, f2, f3, f4, f5, f6, f7, f8, hs, hone, t0, t1, t2, t3, t4, t5, t6, t7, t8⟩ := Tryz.layL_parts
 obtain ⟨a, len, cap, rfl, h1, h2, h3⟩ := open_rows Tryz.underlying23 hs hone (by kernel_rfl) (by simp) h
 rcases h3 with rfl | ⟨b, off, rfl, hb, hrow⟩
 ·exact ⟨a, [], cap, rfl, Nat.zero_le _, LaysAt.nil _ _, by simp⟩
 ·obtain ⟨L, hL, hx⟩ := list_choose (α := LayL) (Pr := fun j x => LayAt w b (off + j * 9) x /\ LayRange x) len (fun i hi => by
    obtain ⟨cs, n, hcl, hc, hf⟩ := hrow i hi
    obtain ⟨x, a1, a2, c1, c2, rfl, r1, r2, rg⟩ := open_layer_cells hcl t0 t1 t2 t3 t4 t5 t6 t7 t8 hf
    exact ⟨x, ⟨a1, a2, c1, c2, ⟨hc 0 (by simp), hc 1 (by simp), hc 2 (by simp), hc 3 (by simp), hc 4 (by simp), hc 5 (by simp), hc 6 (by simp), hc 7 (by simp), hc 8 (by simp)⟩, r1, r2⟩, rg⟩)
  refine ⟨_, L, cap, by rw [hL], by rw [hL]; exact h1, ⟨by rw [hL]; exact h2, .inr ⟨b, off, rfl, hb, fun j x hj => (hx j x hj).1⟩⟩, fun o ho => ?_⟩
  obtain ⟨j, hj⟩ := List.getElem?_of_mem ho
  exact (hx j o hj).2
end
end Go.Proofs.YtoppijdedkdjeaaGreat

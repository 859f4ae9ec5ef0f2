/-
  Contracts of the functions that the statements reach, in the order in which they are built: OpenQ, OpenS.
-/
import Derived.Test.YthlmgejikbmmaaaS2
import Derived.Test.YthlmgejikbmmaaaS10
import Derived.Test.YthlmgejikbmmaaaS9
set_option linter.unusedVariables false
set_option linter.unusedSimpArgs false
set_option linter.constructorNameAsVariable false
set_option linter.deprecated false

/-
  Opening a parameter that is a kernel (api.Kernel): slices of structs, each field read.
-/
namespace Go.Proofs.Ythlmgejikbmmaaa
open Go.RowKit Go.ChangeShapes Go.WideShapes Go.ChangeAt Go.Deep

theorem list_choose {α : Type} {Pr : Nat → α → Prop} : ∀ (len : Nat), (∀ i, i < len → ∃ x, Pr i x) → ∃ L : List α, L.length = len ∧ ∀ (j : Nat) (x : α), L[j]? = some x → Pr j x := by
  intro len
  induction len with
  | zero => intro _; exact ⟨[], rfl, by simp⟩
  | succ n ih =>
    intro h
    obtain ⟨L, h1, h2⟩ := ih (fun i hi => h i (by omega))
    obtain ⟨y, hy⟩ := h n (by omega)
    refine ⟨L ++ [y], by simp [h1], fun j x hj => ?_⟩
    by_cases hjn : j < n
    · rw [List.getElem?_append_left (by omega)] at hj; exact h2 j x hj
    · rw [List.getElem?_append_right (by omega)] at hj
      have hlt := (List.getElem?_eq_some_iff.1 hj).1
      simp at hlt
      obtain rfl : j = n := by omega
      rw [h1, Nat.sub_self] at hj
      simp at hj
      subst hj
      exact hy
theorem list3' {α : Type} {l : List α} (h : l.length = 3) : ∃ a b c, l = [a, b, c] := by
  match l, h with
  | [a, b, c], _ => exact ⟨a, b, c, rfl⟩
theorem list8' {α : Type} {l : List α} (h : l.length = 8) : ∃ a b c d e f g i, l = [a, b, c, d, e, f, g, i] := by
  match l, h with
  | [a, b, c, d, e, f, g, i], _ => exact ⟨a, b, c, d, e, f, g, i, rfl⟩
theorem list11' {α : Type} {l : List α} (h : l.length = 11) : ∃ a b c d e f g i j k m, l = [a, b, c, d, e, f, g, i, j, k, m] := by
  match l, h with
  | [a, b, c, d, e, f, g, i, j, k, m], _ => exact ⟨a, b, c, d, e, f, g, i, j, k, m, rfl⟩

section
variable {H : Type} {enc : TypeId × Value → H} {w : World} {base : Nat} {spare : Nat → Bool} {held : Bool}
theorem open_rows {P : Program} {t e : TypeId} {fs : Array Field} {fuel : Nat} {c : Value} {x : DataW H × List MemPlace} (ht : P.underlying t = some (.slice e)) (he : P.underlying e = some (.struct fs))
    (hone : oneCellFields P fs = true) (hC : P.cellsOf e = fs.size) (hpos : 0 < fs.size) (h : DataW.trod enc P w base spare held fuel t [c] = some x) :
    ∃ (a : Option Addr) (len cap : Nat), c = .slice a len cap ∧ len ≤ cap ∧ len ≤ 9223372036854775807 ∧ (len = 0 ∨ ∃ b off, a = some ⟨b, off, none⟩ ∧ b < w.heap.size ∧
      ∀ i, i < len → ∃ (cs : List Value) (n : Nat), cs.length = fs.size ∧ (∀ j, j < fs.size → w.cell? ⟨b, off + i * fs.size + j, none⟩ = cs[j]?) ∧ ∀ (j : Nat) (f : Field), fs[j]? = some f → ∃ c y, cs[j]? = some c ∧ DataW.trod enc P w base spare held n f.type [c] = some y) := by
  rcases open_slice ht h with ⟨hc, _⟩ | ⟨a, len, cap, m, n, D, Pl, hcs, hb, hl, hm, hmm, hx, hi⟩
  · have hc' : c = .slice none 0 0 := by simpa using hc
    exact ⟨none, 0, 0, hc', Nat.le_refl _, by omega, .inl rfl⟩
  · have hc : c = .slice (some a) len cap := by simpa using hcs
    refine ⟨some a, len, cap, hc, hl, by unfold maxLen at hm; omega, ?_⟩
    rcases Nat.eq_zero_or_pos len with h0 | h0
    · exact .inl h0
    have hml : len ≤ m := by rw [hmm]; split <;> omega
    have hget : ∀ i, i < len → ∃ (cs : List Value) (n : Nat), cs.length = fs.size ∧ (∀ j, j < fs.size → w.cell? ((a.add (i * fs.size)).add j) = cs[j]?) ∧ ∀ (j : Nat) (f : Field), fs[j]? = some f → ∃ c y, cs[j]? = some c ∧ DataW.trod enc P w base spare held n f.type [c] = some y := by
      intro i hil
      obtain ⟨cs', hc, ht'⟩ := hi i (by omega)
      rw [hC] at hc
      obtain ⟨_, hcl, hat⟩ := World.cells?_some hc
      obtain ⟨ys, n', h1, h2, h3, h4⟩ := open_fields he hone hC ht'
      exact ⟨cs', n', h1, hat, fun j f hj => let ⟨c, y, q1, _, q3⟩ := h4 j f hj; ⟨c, y, q1, q3⟩⟩
    obtain ⟨b, off, spot⟩ := a
    obtain ⟨cs0, _, hl0, hc0, _⟩ := hget 0 h0
    have hc1 := hc0 0 hpos
    rw [List.getElem?_eq_getElem (by omega)] at hc1
    have hspot : spot = none := by simpa [Addr.add] using World.cell?_spot hc1
    subst hspot
    have hbl := World.block_lt_of_cell? w _ hc1
    refine .inr ⟨b, off, rfl, by simpa [Addr.add] using hbl, fun i hil => ?_⟩
    obtain ⟨cs, n, q1, q2, q3⟩ := hget i hil
    exact ⟨cs, n, q1, fun j hj => by have := q2 j hj; simpa [Addr.add_lit] using this, q3⟩

theorem open_u32s {P : Program} {t e : TypeId} {fuel : Nat} {c : Value} {x : DataW H × List MemPlace} (ht : P.underlying t = some (.slice e)) (he : P.underlying e = some (.int .u32)) (hc : P.cellsOf e = 1)
    (h : DataW.trod enc P w base spare held fuel t [c] = some x) : ∃ a l k, c = .slice a (List.length l) k ∧ l.length ≤ k ∧ U32s w a l := by
  rcases open_ints ht he hc h with ⟨hcs, hx⟩ | ⟨x', l, k, zs, hcs, _, hl, hm, hz, hx, hcell, hwz⟩
  · have hc' : c = .slice none 0 0 := by simpa using hcs
    exact ⟨none, [], 0, hc', Nat.le_refl _, U32s.nil _ _⟩
  · have hlz : l ≤ zs.length := by rw [hz]; split <;> omega
    have hlen : ((zs.take l).map Int.toNat).length = l := by simp; omega
    have hc' : c = .slice (some x') l k := by simpa using hcs
    have hrange : ∀ n ∈ zs, 0 ≤ n ∧ n ≤ 4294967295 := by
      intro n hn
      have := hwz n hn
      simp [Lit.wf, IntKind.min, IntKind.max, IntKind.bits, IntKind.signed] at this
      omega
    refine ⟨some x', (zs.take l).map Int.toNat, k, by rw [hlen]; exact hc', by omega, ⟨?_, by unfold maxLen at hm; omega, ?_⟩⟩
    · intro d hd
      obtain ⟨n, hn, rfl⟩ := List.mem_map.1 hd
      have := hrange n (List.mem_of_mem_take hn)
      omega
    · rcases Nat.eq_zero_or_pos l with h0 | h0
      · left; subst h0; simp
      · obtain ⟨b, off, spot⟩ := x'
        have hc0 := hcell 0 (by omega)
        have hspot : spot = none := by simpa [Addr.add] using World.cell?_spot hc0
        subst hspot
        have hb := World.block_lt_of_cell? w _ hc0
        refine .inr ⟨b, off, rfl, by simpa [Addr.add] using hb, ?_⟩
        intro j d hj
        have hj' : j < l := by have := (List.getElem?_eq_some_iff.1 hj).1; omega
        have h1 := hcell j (by omega)
        rw [List.getElem?_map, List.getElem?_take_of_lt hj', List.getElem?_eq_getElem (by omega)] at hj
        simp at hj
        have hr := hrange _ (List.getElem_mem (l := zs) (n := j) (by omega))
        have e : zs.getD j 0 = (d : Int) := by
          rw [List.getD_eq_getElem?_getD, List.getElem?_eq_getElem (by omega)]
          simp only [Option.getD_some]
          omega
        rw [e] at h1
        simpa [Addr.add_lit] using h1

theorem Try.rat_parts : ∃ f0 f1 f2 : Field, Try.prog.underlying 78 = some (.struct #[f0, f1, f2]) ∧ oneCellFields Try.prog #[f0, f1, f2] = true ∧ f0.type = 4 ∧ f1.type = 76 ∧ f2.type = 76 :=
  ⟨_, _, _, Try.underlying78, by kernel_rfl, rfl, rfl, rfl⟩
theorem Try.op_parts : ∃ f0 f1 f2 f3 f4 f5 f6 f7 f8 f9 f10 : Field, Try.prog.underlying 50 = some (.struct #[f0, f1, f2, f3, f4, f5, f6, f7, f8, f9, f10]) ∧ oneCellFields Try.prog #[f0, f1, f2, f3, f4, f5, f6, f7, f8, f9, f10] = true ∧
    f0.type = 3 ∧ f1.type = 3 ∧ f2.type = 3 ∧ f3.type = 3 ∧ f4.type = 3 ∧ f5.type = 3 ∧ f6.type = 22 ∧ f7.type = 47 ∧ f8.type = 47 ∧ f9.type = 2 ∧ f10.type = 3 :=
  ⟨_, _, _, _, _, _, _, _, _, _, _, Try.underlying50, by kernel_rfl, rfl, rfl, rfl, rfl, rfl, rfl, rfl, rfl, rfl, rfl, rfl⟩
theorem Try.kernel_parts' : ∃ f0 f1 f2 f3 f4 f5 f6 f7 : Field, Try.prog.underlying 45 = some (.struct #[f0, f1, f2, f3, f4, f5, f6, f7]) ∧ oneCellFields Try.prog #[f0, f1, f2, f3, f4, f5, f6, f7] = true ∧
    f0.type = 22 ∧ f1.type = 43 ∧ f2.type = 3 ∧ f3.type = 3 ∧ f4.type = 3 ∧ f5.type = 24 ∧ f6.type = 24 ∧ f7.type = 24 :=
  ⟨_, _, _, _, _, _, _, _, Try.underlying45, by kernel_rfl, rfl, rfl, rfl, rfl, rfl, rfl, rfl, rfl⟩
theorem Try.cellsU32 : Try.prog.cellsOf 139 = 1 := by kernel_rfl
theorem Try.cellsInt1 : Try.prog.cellsOf 3 = 1 := by kernel_rfl

theorem open_rats {fuel : Nat} {c : Value} {x : DataW H × List MemPlace} (h : DataW.trod enc Try.prog w base spare held fuel 24 [c] = some x) : ∃ a L k, c = .slice a (List.length L) k ∧ RatsAt w a L := by
  obtain ⟨f0, f1, f2, hs, hone, t0, t1, t2⟩ := Try.rat_parts
  obtain ⟨a, len, cap, rfl, h1, h2, h3⟩ := open_rows Try.underlying24 hs hone (by kernel_rfl) (by simp) h
  rcases h3 with rfl | ⟨b, off, rfl, hb, hrow⟩
  · exact ⟨a, [], cap, rfl, ⟨by simp, .inl rfl⟩⟩
  · obtain ⟨L, hL, hx⟩ := list_choose (α := RatL) (Pr := fun j x => ∃ (an ad : Option Addr) (cn cd : Nat), w.cell? ⟨b, off + j * 3, none⟩ = some (.bool x.neg) ∧ w.cell? ⟨b, off + j * 3 + 1, none⟩ = some (.slice an x.num.length cn) ∧ w.cell? ⟨b, off + j * 3 + 2, none⟩ = some (.slice ad x.den.length cd) ∧
      RatV w (.agg #[.bool x.neg, .slice an x.num.length cn, .slice ad x.den.length cd]) x) len (fun i hi => by
        obtain ⟨cs, n, hcl, hc, hf⟩ := hrow i hi
        obtain ⟨v0, v1, v2, rfl⟩ := list3' hcl
        obtain ⟨c0, y0, e0, g0⟩ := hf 0 f0 rfl
        obtain ⟨c1, y1, e1, g1⟩ := hf 1 f1 rfl
        obtain ⟨c2, y2, e2, g2⟩ := hf 2 f2 rfl
        simp only [List.getElem?_cons_zero, List.getElem?_cons_succ, Option.some.injEq] at e0 e1 e2
        subst e0 e1 e2
        rw [t0] at g0
        rw [t1] at g1
        rw [t2] at g2
        obtain ⟨neg, hn, _⟩ := DataW.trod_bool Try.underlying4 g0
        simp only [List.cons.injEq, and_true] at hn
        subst hn
        obtain ⟨an, num, kn, rfl, hkn, un⟩ := open_u32s Try.underlying76 Try.underlying139 Try.cellsU32 g1
        obtain ⟨ad, den, kd, rfl, hkd, ud⟩ := open_u32s Try.underlying76 Try.underlying139 Try.cellsU32 g2
        exact ⟨⟨neg, num, den⟩, an, ad, kn, kd, hc 0 (by simp), hc 1 (by simp), hc 2 (by simp), ⟨an, ad, kn, kd, rfl, hkn, hkd, un, ud⟩⟩)
    exact ⟨_, L, cap, by rw [hL], ⟨by rw [hL]; exact h2, .inr ⟨b, off, rfl, hb, hx⟩⟩⟩

def OpRange (x : OpL) : Prop := (I64 x.kind ∧ I64 x.cols ∧ I64 x.inner ∧ I64 x.shift) ∧ I64 x.src ∧ I64 x.other ∧ I64 x.dst ∧ I64 x.mul
theorem open_ops {fuel : Nat} {c : Value} {x : DataW H × List MemPlace} (h : DataW.trod enc Try.prog w base spare held fuel 43 [c] = some x) : ∃ a L k, c = .slice a (List.length L) k ∧ OpsAt w a L ∧ ∀ o ∈ L, OpRange o := by
  obtain ⟨f0, f1, f2, f3, f4, f5, f6, f7, f8, f9, f10, hs, hone, t0, t1, t2, t3, t4, t5, t6, t7, t8, t9, t10⟩ := Try.op_parts
  obtain ⟨a, len, cap, rfl, h1, h2, h3⟩ := open_rows Try.underlying43 hs hone (by kernel_rfl) (by simp) h
  rcases h3 with rfl | ⟨b, off, rfl, hb, hrow⟩
  · exact ⟨a, [], cap, rfl, ⟨by simp, .inl rfl⟩, by simp⟩
  · obtain ⟨L, hL, hx⟩ := list_choose (α := OpL) (Pr := fun j x => (∃ (a1 a2 a3 : Option Addr) (c1 c2 c3 : Nat),
    (w.cell? ⟨b, off + j * 11, none⟩ = some (.int .i64 x.kind) ∧ w.cell? ⟨b, off + j * 11 + 1, none⟩ = some (.int .i64 x.dst) ∧ w.cell? ⟨b, off + j * 11 + 2, none⟩ = some (.int .i64 x.src) ∧ w.cell? ⟨b, off + j * 11 + 3, none⟩ = some (.int .i64 x.other) ∧
      w.cell? ⟨b, off + j * 11 + 4, none⟩ = some (.int .i64 x.cols) ∧ w.cell? ⟨b, off + j * 11 + 5, none⟩ = some (.int .i64 x.inner) ∧ w.cell? ⟨b, off + j * 11 + 6, none⟩ = some (.slice a1 x.index.length c1) ∧ w.cell? ⟨b, off + j * 11 + 7, none⟩ = some (.slice a2 x.weights.length c2) ∧
      w.cell? ⟨b, off + j * 11 + 8, none⟩ = some (.slice a3 x.bias.length c3) ∧ w.cell? ⟨b, off + j * 11 + 9, none⟩ = some (.int .i64 x.mul) ∧ w.cell? ⟨b, off + j * 11 + 10, none⟩ = some (.int .i64 x.shift)) ∧
    OpV w (.agg #[.int .i64 x.kind, .int .i64 x.dst, .int .i64 x.src, .int .i64 x.other, .int .i64 x.cols, .int .i64 x.inner, .slice a1 x.index.length c1, .slice a2 x.weights.length c2, .slice a3 x.bias.length c3, .int .i64 x.mul, .int .i64 x.shift]) x) ∧ OpRange x) len (fun i hi => by
        obtain ⟨cs, n, hcl, hc, hf⟩ := hrow i hi
        obtain ⟨v0, v1, v2, v3, v4, v5, v6, v7, v8, v9, v10, rfl⟩ := list11' hcl
        obtain ⟨c0, y0, e0, g0⟩ := hf 0 f0 rfl
        obtain ⟨c1, y1, e1, g1⟩ := hf 1 f1 rfl
        obtain ⟨c2, y2, e2, g2⟩ := hf 2 f2 rfl
        obtain ⟨c3, y3, e3, g3⟩ := hf 3 f3 rfl
        obtain ⟨c4, y4, e4, g4⟩ := hf 4 f4 rfl
        obtain ⟨c5, y5, e5, g5⟩ := hf 5 f5 rfl
        obtain ⟨c6, y6, e6, g6⟩ := hf 6 f6 rfl
        obtain ⟨c7, y7, e7, g7⟩ := hf 7 f7 rfl
        obtain ⟨c8, y8, e8, g8⟩ := hf 8 f8 rfl
        obtain ⟨c9, y9, e9, g9⟩ := hf 9 f9 rfl
        obtain ⟨c10, y10, e10, g10⟩ := hf 10 f10 rfl
        simp only [List.getElem?_cons_zero, List.getElem?_cons_succ, Option.some.injEq] at e0 e1 e2 e3 e4 e5 e6 e7 e8 e9 e10
        subst e0 e1 e2 e3 e4 e5 e6 e7 e8 e9 e10
        rw [t0] at g0
        rw [t1] at g1
        rw [t2] at g2
        rw [t3] at g3
        rw [t4] at g4
        rw [t5] at g5
        rw [t6] at g6
        rw [t7] at g7
        rw [t8] at g8
        rw [t9] at g9
        rw [t10] at g10
        obtain ⟨n0, rfl, k0⟩ := open_i64 Try.underlying3 g0
        obtain ⟨n1, rfl, k1⟩ := open_i64 Try.underlying3 g1
        obtain ⟨n2, rfl, k2⟩ := open_i64 Try.underlying3 g2
        obtain ⟨n3, rfl, k3⟩ := open_i64 Try.underlying3 g3
        obtain ⟨n4, rfl, k4⟩ := open_i64 Try.underlying3 g4
        obtain ⟨n5, rfl, k5⟩ := open_i64 Try.underlying3 g5
        obtain ⟨n9, rfl, k9⟩ := open_i64 Try.underlying2 g9
        obtain ⟨n10, rfl, k10⟩ := open_i64 Try.underlying3 g10
        obtain ⟨a6, l6, m6, q6, i6, b6, _⟩ := open_ints64 Try.underlying22 Try.underlying3 Try.cellsInt1 g6
        obtain ⟨a7, l7, m7, q7, i7, b7, _⟩ := open_ints64 Try.underlying47 Try.underlying2 Try.cellsI64 g7
        obtain ⟨a8, l8, m8, q8, i8, b8, _⟩ := open_ints64 Try.underlying47 Try.underlying2 Try.cellsI64 g8
        simp only [List.cons.injEq, and_true] at q6 q7 q8
        subst q6 q7 q8
        exact ⟨⟨n0, n1, n2, n3, n4, n5, l6, l7, l8, n9, n10⟩, ⟨a6, a7, a8, m6, m7, m8, ⟨hc 0 (by simp), hc 1 (by simp), hc 2 (by simp), hc 3 (by simp), hc 4 (by simp), hc 5 (by simp), hc 6 (by simp), hc 7 (by simp), hc 8 (by simp), hc 9 (by simp), hc 10 (by simp)⟩,
          ⟨a6, a7, a8, m6, m7, m8, rfl, i6, i7, i8, b6, b7, b8⟩⟩, ⟨⟨k0, k4, k5, k10⟩, k2, k3, k1, k9⟩⟩)
    refine ⟨_, L, cap, by rw [hL], ⟨by rw [hL]; exact h2, .inr ⟨b, off, rfl, hb, fun j x hj => (hx j x hj).1⟩⟩, fun o ho => ?_⟩
    obtain ⟨j, hj⟩ := List.getElem?_of_mem ho
    exact (hx j o hj).2

set_option maxRecDepth 100000 in
theorem open_kernelK {r : Reach} {b0 : Nat} {v : Value} {d : DataW H} {p : List MemPlace} (hv : Value.okWide Try.prog w r b0 45 v)
    (h : DataW.Trod enc Try.prog w base spare held 45 v d p) : ∃ k : KerL, KerV w v k ∧ I64 k.output ∧ I64 k.inShift ∧ I64 k.outShift ∧ ∀ o ∈ k.ops, OpRange o := by
  obtain ⟨f0, f1, f2, f3, f4, f5, f6, f7, hs, hone, t0, t1, t2, t3, t4, t5, t6, t7⟩ := Try.kernel_parts'
  obtain ⟨cs, ys, n, rfl, hcl, hyl, hd, hf⟩ := open_struct hs hone (by kernel_rfl) hv h
  obtain ⟨v0, v1, v2, v3, v4, v5, v6, v7, rfl⟩ := list8' hcl
  obtain ⟨c0, y0, e0, _, g0⟩ := hf 0 f0 rfl
  obtain ⟨c1, y1, e1, _, g1⟩ := hf 1 f1 rfl
  obtain ⟨c2, y2, e2, _, g2⟩ := hf 2 f2 rfl
  obtain ⟨c3, y3, e3, _, g3⟩ := hf 3 f3 rfl
  obtain ⟨c4, y4, e4, _, g4⟩ := hf 4 f4 rfl
  obtain ⟨c5, y5, e5, _, g5⟩ := hf 5 f5 rfl
  obtain ⟨c6, y6, e6, _, g6⟩ := hf 6 f6 rfl
  obtain ⟨c7, y7, e7, _, g7⟩ := hf 7 f7 rfl
  simp only [List.getElem?_cons_zero, List.getElem?_cons_succ, Option.some.injEq] at e0 e1 e2 e3 e4 e5 e6 e7
  subst e0 e1 e2 e3 e4 e5 e6 e7
  rw [t0] at g0
  rw [t1] at g1
  rw [t2] at g2
  rw [t3] at g3
  rw [t4] at g4
  rw [t5] at g5
  rw [t6] at g6
  rw [t7] at g7
  obtain ⟨a0, l0, m0, q0, i0, b0', _⟩ := open_ints64 Try.underlying22 Try.underlying3 Try.cellsInt1 g0
  simp only [List.cons.injEq, and_true] at q0
  subst q0
  obtain ⟨a1, l1, m1, rfl, i1, r1⟩ := open_ops g1
  obtain ⟨n2, rfl, k2⟩ := open_i64 Try.underlying3 g2
  obtain ⟨n3, rfl, k3⟩ := open_i64 Try.underlying3 g3
  obtain ⟨n4, rfl, k4⟩ := open_i64 Try.underlying3 g4
  obtain ⟨a5, l5, m5, rfl, i5⟩ := open_rats g5
  obtain ⟨a6, l6, m6, rfl, i6⟩ := open_rats g6
  obtain ⟨a7, l7, m7, rfl, i7⟩ := open_rats g7
  exact ⟨⟨l0, l1, n2, n3, n4, l5, l6, l7⟩, ⟨a0, a1, a5, a6, a7, m0, m1, m5, m6, m7, rfl, i0, i1, i5, i6, i7⟩, k2, k3, k4, r1⟩
end

end Go.Proofs.Ythlmgejikbmmaaa

/-
  Opening parameters: a model (api.Model), a layer (api.Layer), a slice of slices of integers.
-/
namespace Go.Proofs.Ythlmgejikbmmaaa
open Go.RowKit Go.ChangeShapes Go.WideShapes Go.ChangeAt Go.Deep

theorem list9' {α : Type} {l : List α} (h : l.length = 9) : ∃ a b c d e f g i j, l = [a, b, c, d, e, f, g, i, j] := by
  match l, h with
  | [a, b, c, d, e, f, g, i, j], _ => exact ⟨a, b, c, d, e, f, g, i, j, rfl⟩
theorem list2' {α : Type} {l : List α} (h : l.length = 2) : ∃ a b, l = [a, b] := by
  match l, h with
  | [a, b], _ => exact ⟨a, b, rfl⟩
section
variable {H : Type} {enc : TypeId × Value → H} {w : World} {base : Nat} {spare : Nat → Bool} {held : Bool}

theorem Try.layL_parts : ∃ f0 f1 f2 f3 f4 f5 f6 f7 f8 : Field, Try.prog.underlying 26 = some (.struct #[f0, f1, f2, f3, f4, f5, f6, f7, f8]) ∧ oneCellFields Try.prog #[f0, f1, f2, f3, f4, f5, f6, f7, f8] = true ∧
    f0.type = 3 ∧ f1.type = 3 ∧ f2.type = 3 ∧ f3.type = 3 ∧ f4.type = 3 ∧ f5.type = 3 ∧ f6.type = 3 ∧ f7.type = 24 ∧ f8.type = 24 :=
  ⟨_, _, _, _, _, _, _, _, _, Try.underlying26, by kernel_rfl, rfl, rfl, rfl, rfl, rfl, rfl, rfl, rfl, rfl⟩
theorem Try.model_parts : ∃ f0 f1 : Field, Try.prog.underlying 36 = some (.struct #[f0, f1]) ∧ oneCellFields Try.prog #[f0, f1] = true ∧ f0.type = 22 ∧ f1.type = 34 :=
  ⟨_, _, Try.underlying36, by kernel_rfl, rfl, rfl⟩

/-- The integers of a layer are integers of 64 bits. -/
def LayRange (x : LayL) : Prop := (I64 x.kind ∧ I64 x.frm ∧ I64 x.out ∧ I64 x.kh) ∧ I64 x.kw ∧ I64 x.stride ∧ I64 x.pad
theorem open_layer_cells {cs : List Value} {n : Nat} {f0 f1 f2 f3 f4 f5 f6 f7 f8 : Field} (hcl : cs.length = 9)
    (t0 : f0.type = 3) (t1 : f1.type = 3) (t2 : f2.type = 3) (t3 : f3.type = 3) (t4 : f4.type = 3) (t5 : f5.type = 3) (t6 : f6.type = 3) (t7 : f7.type = 24) (t8 : f8.type = 24)
    (hf : ∀ (j : Nat) (f : Field), #[f0, f1, f2, f3, f4, f5, f6, f7, f8][j]? = some f → ∃ c y, cs[j]? = some c ∧ DataW.trod enc Try.prog w base spare held n f.type [c] = some y) :
    ∃ (x : LayL) (a1 a2 : Option Addr) (c1 c2 : Nat), cs = [.int .i64 x.kind, .int .i64 x.frm, .int .i64 x.out, .int .i64 x.kh, .int .i64 x.kw, .int .i64 x.stride, .int .i64 x.pad, .slice a1 x.weights.length c1, .slice a2 x.bias.length c2] ∧ RatsAt w a1 x.weights ∧ RatsAt w a2 x.bias ∧ LayRange x := by
  obtain ⟨v0, v1, v2, v3, v4, v5, v6, v7, v8, rfl⟩ := list9' hcl
  obtain ⟨c0, y0, e0, g0⟩ := hf 0 f0 rfl
  obtain ⟨c1, y1, e1, g1⟩ := hf 1 f1 rfl
  obtain ⟨c2, y2, e2, g2⟩ := hf 2 f2 rfl
  obtain ⟨c3, y3, e3, g3⟩ := hf 3 f3 rfl
  obtain ⟨c4, y4, e4, g4⟩ := hf 4 f4 rfl
  obtain ⟨c5, y5, e5, g5⟩ := hf 5 f5 rfl
  obtain ⟨c6, y6, e6, g6⟩ := hf 6 f6 rfl
  obtain ⟨c7, y7, e7, g7⟩ := hf 7 f7 rfl
  obtain ⟨c8, y8, e8, g8⟩ := hf 8 f8 rfl
  simp only [List.getElem?_cons_zero, List.getElem?_cons_succ, Option.some.injEq] at e0 e1 e2 e3 e4 e5 e6 e7 e8
  subst e0 e1 e2 e3 e4 e5 e6 e7 e8
  rw [t0] at g0
  rw [t1] at g1
  rw [t2] at g2
  rw [t3] at g3
  rw [t4] at g4
  rw [t5] at g5
  rw [t6] at g6
  rw [t7] at g7
  rw [t8] at g8
  obtain ⟨n0, rfl, k0⟩ := open_i64 Try.underlying3 g0
  obtain ⟨n1, rfl, k1⟩ := open_i64 Try.underlying3 g1
  obtain ⟨n2, rfl, k2⟩ := open_i64 Try.underlying3 g2
  obtain ⟨n3, rfl, k3⟩ := open_i64 Try.underlying3 g3
  obtain ⟨n4, rfl, k4⟩ := open_i64 Try.underlying3 g4
  obtain ⟨n5, rfl, k5⟩ := open_i64 Try.underlying3 g5
  obtain ⟨n6, rfl, k6⟩ := open_i64 Try.underlying3 g6
  obtain ⟨a7, l7, m7, rfl, i7⟩ := open_rats g7
  obtain ⟨a8, l8, m8, rfl, i8⟩ := open_rats g8
  exact ⟨⟨n0, n1, n2, n3, n4, n5, n6, l7, l8⟩, a7, a8, m7, m8, rfl, i7, i8, ⟨⟨k0, k1, k2, k3⟩, k4, k5, k6⟩⟩

set_option maxRecDepth 100000 in
theorem open_layers {fuel : Nat} {c : Value} {x : DataW H × List MemPlace} (h : DataW.trod enc Try.prog w base spare held fuel 34 [c] = some x) : ∃ a L k, c = .slice a (List.length L) k ∧ L.length ≤ k ∧ LaysAt w a L ∧ ∀ o ∈ L, LayRange o := by
  obtain ⟨f0, f1, f2, f3, f4, f5, f6, f7, f8, hs, hone, t0, t1, t2, t3, t4, t5, t6, t7, t8⟩ := Try.layL_parts
  obtain ⟨a, len, cap, rfl, h1, h2, h3⟩ := open_rows Try.underlying34 hs hone (by kernel_rfl) (by simp) h
  rcases h3 with rfl | ⟨b, off, rfl, hb, hrow⟩
  · exact ⟨a, [], cap, rfl, Nat.zero_le _, LaysAt.nil _ _, by simp⟩
  · obtain ⟨L, hL, hx⟩ := list_choose (α := LayL) (Pr := fun j x => LayAt w b (off + j * 9) x ∧ LayRange x) len (fun i hi => by
        obtain ⟨cs, n, hcl, hc, hf⟩ := hrow i hi
        obtain ⟨x, a1, a2, c1, c2, rfl, r1, r2, rg⟩ := open_layer_cells hcl t0 t1 t2 t3 t4 t5 t6 t7 t8 hf
        exact ⟨x, ⟨a1, a2, c1, c2, ⟨hc 0 (by simp), hc 1 (by simp), hc 2 (by simp), hc 3 (by simp), hc 4 (by simp), hc 5 (by simp), hc 6 (by simp), hc 7 (by simp), hc 8 (by simp)⟩, r1, r2⟩, rg⟩)
    refine ⟨_, L, cap, by rw [hL], by rw [hL]; exact h1, ⟨by rw [hL]; exact h2, .inr ⟨b, off, rfl, hb, fun j x hj => (hx j x hj).1⟩⟩, fun o ho => ?_⟩
    obtain ⟨j, hj⟩ := List.getElem?_of_mem ho
    exact (hx j o hj).2

set_option maxRecDepth 100000 in
theorem open_intss {fuel : Nat} {c : Value} {x : DataW H × List MemPlace} (h : DataW.trod enc Try.prog w base spare held fuel 23 [c] = some x) : ∃ a L k, c = .slice a (List.length L) k ∧ L.length ≤ k ∧ Intss w Any a L := by
  rcases open_slice Try.underlying23 h with ⟨hc, _⟩ | ⟨a, len, cap, m, n, D, Pl, hcs, hb, hl, hm, hmm, hx, hi⟩
  · have hc' : c = .slice none 0 0 := by simpa using hc
    exact ⟨none, [], 0, hc', Nat.le_refl _, Intss.nil _ _ _⟩
  · have hc : c = .slice (some a) len cap := by simpa using hcs
    have hC : Try.prog.cellsOf 22 = 1 := by kernel_rfl
    rcases Nat.eq_zero_or_pos len with h0 | h0
    · subst h0
      exact ⟨some a, [], cap, hc, Nat.zero_le _, Intss.nil _ _ _⟩
    have hml : len ≤ m := by rw [hmm]; split <;> omega
    have hget : ∀ i, i < len → ∃ (l : List Int), ∃ aj cj, w.cell? (a.add i) = some (.slice aj l.length cj) ∧ Ints w Any aj l ∧ l.length ≤ cj := by
      intro i hil
      obtain ⟨cs', hc, ht'⟩ := hi i (by omega)
      rw [hC, Nat.mul_one] at hc
      obtain ⟨_, hcl, hat⟩ := World.cells?_some hc
      obtain ⟨aj, l, cj, e, hI, hcj, _⟩ := open_ints64 Try.underlying22 Try.underlying3 Try.cellsInt1 ht'
      subst e
      have h1 := hat 0 (by omega)
      exact ⟨l, aj, cj, by simpa [Addr.add] using h1, hI, hcj⟩
    obtain ⟨L, hL, hx'⟩ := list_choose (α := List Int) (Pr := fun j l => ∃ aj cj, w.cell? (a.add j) = some (.slice aj l.length cj) ∧ Ints w Any aj l ∧ l.length ≤ cj) len hget
    obtain ⟨b, off, spot⟩ := a
    obtain ⟨l0, a0, c0, e0, _⟩ := hget 0 h0
    have hspot : spot = none := by simpa [Addr.add] using World.cell?_spot e0
    subst hspot
    have hbl := World.block_lt_of_cell? w _ e0
    refine ⟨_, L, cap, by rw [hL]; exact hc, by rw [hL]; exact hl, ⟨by rw [hL]; unfold maxLen at hm; omega, .inr ⟨b, off, rfl, trivial, by simpa [Addr.add] using hbl, fun j l hj => ?_⟩⟩⟩
    obtain ⟨aj, cj, q1, q2, q3⟩ := hx' j l hj
    exact ⟨aj, cj, by simpa [Addr.add_lit] using q1, q2, q3⟩

set_option maxRecDepth 100000 in
theorem open_modelM {r : Reach} {b0 : Nat} {v : Value} {d : DataW H} {p : List MemPlace} (hv : Value.okWide Try.prog w r b0 36 v)
    (h : DataW.Trod enc Try.prog w base spare held 36 v d p) : ∃ (m : ModL) (a1 a2 : Option Addr) (c1 c2 : Nat), v = .agg #[.slice a1 m.input.length c1, .slice a2 m.layers.length c2] ∧ m.layers.length ≤ c2 ∧ Ints w Any a1 m.input ∧ LaysAt w a2 m.layers ∧ ∀ l ∈ m.layers, LayRange l := by
  obtain ⟨f0, f1, hs, hone, t0, t1⟩ := Try.model_parts
  obtain ⟨cs, ys, n, rfl, hcl, hyl, hd, hf⟩ := open_struct hs hone (by kernel_rfl) hv h
  obtain ⟨v0, v1, rfl⟩ := list2' hcl
  obtain ⟨c0, y0, e0, _, g0⟩ := hf 0 f0 rfl
  obtain ⟨c1, y1, e1, _, g1⟩ := hf 1 f1 rfl
  simp only [List.getElem?_cons_zero, List.getElem?_cons_succ, Option.some.injEq] at e0 e1
  subst e0 e1
  rw [t0] at g0
  rw [t1] at g1
  obtain ⟨a0, l0, m0, q0, i0, b0', _⟩ := open_ints64 Try.underlying22 Try.underlying3 Try.cellsInt1 g0
  simp only [List.cons.injEq, and_true] at q0
  subst q0
  obtain ⟨a1, l1, m1, rfl, k1, i1, r1⟩ := open_layers g1
  exact ⟨⟨l0, l1⟩, a0, a1, m0, m1, rfl, k1, i0, i1, r1⟩
set_option maxRecDepth 100000 in
theorem open_layerL {r : Reach} {b0 : Nat} {v : Value} {d : DataW H} {p : List MemPlace} (hv : Value.okWide Try.prog w r b0 26 v)
    (h : DataW.Trod enc Try.prog w base spare held 26 v d p) : ∃ l : LayL, LayV w v l ∧ LayRange l := by
  obtain ⟨f0, f1, f2, f3, f4, f5, f6, f7, f8, hs, hone, t0, t1, t2, t3, t4, t5, t6, t7, t8⟩ := Try.layL_parts
  obtain ⟨cs, ys, n, rfl, hcl, hyl, hd, hf⟩ := open_struct hs hone (by kernel_rfl) hv h
  obtain ⟨x, a1, a2, c1, c2, rfl, r1, r2, rg⟩ := open_layer_cells hcl t0 t1 t2 t3 t4 t5 t6 t7 t8 (n := n) (fun j f hj => by obtain ⟨c, y, q1, _, q2⟩ := hf j f hj; exact ⟨c, y, q1, q2⟩)
  exact ⟨x, ⟨a1, a2, c1, c2, rfl, r1, r2⟩, rg⟩
end

end Go.Proofs.Ythlmgejikbmmaaa

/-
  Contracts of the functions that the statements reach, in the order in which they are built: OpenQ.
-/
import Derived.Test.YtfmhedfiklidhaaM2
import Derived.Test.YtfmhedfiklidhaaM8
set_option linter.unusedVariables false
set_option linter.unusedSimpArgs false
set_option linter.constructorNameAsVariable false
set_option linter.deprecated false

/-
  Opening a parameter that is a kernel (api.Kernel): slices of structs, each field read.
-/
namespace Go.Proofs.Ytfmhedfiklidhaa
open Go.RowKit Go.ChangeShapes Go.WideShapes Go.ChangeAt Go.Deep

theorem list_choose {α : Type} {Pr : Nat → α → Prop} : ∀ (len : Nat), (∀ i, i < len → ∃ x, Pr i x) → ∃ L : List α, L.length = len ∧ ∀ (j : Nat) (x : α), L[j]? = some x → Pr j x := by
  intro len
  induction len with
  | zero => intro _; exact ⟨[], rfl, by simp⟩
  | succ n ih =>
    intro h
    obtain ⟨L, h1, h2⟩ := ih (fun i hi => h i (by omega))
    obtain ⟨y, hy⟩ := h n (by omega)
    refine ⟨L ++ [y], by simp [h1], fun j x hj => ?_⟩
    by_cases hjn : j < n
    · rw [List.getElem?_append_left (by omega)] at hj; exact h2 j x hj
    · rw [List.getElem?_append_right (by omega)] at hj
      have hlt := (List.getElem?_eq_some_iff.1 hj).1
      simp at hlt
      obtain rfl : j = n := by omega
      rw [h1, Nat.sub_self] at hj
      simp at hj
      subst hj
      exact hy
theorem list3' {α : Type} {l : List α} (h : l.length = 3) : ∃ a b c, l = [a, b, c] := by
  match l, h with
  | [a, b, c], _ => exact ⟨a, b, c, rfl⟩
theorem list8' {α : Type} {l : List α} (h : l.length = 8) : ∃ a b c d e f g i, l = [a, b, c, d, e, f, g, i] := by
  match l, h with
  | [a, b, c, d, e, f, g, i], _ => exact ⟨a, b, c, d, e, f, g, i, rfl⟩
theorem list11' {α : Type} {l : List α} (h : l.length = 11) : ∃ a b c d e f g i j k m, l = [a, b, c, d, e, f, g, i, j, k, m] := by
  match l, h with
  | [a, b, c, d, e, f, g, i, j, k, m], _ => exact ⟨a, b, c, d, e, f, g, i, j, k, m, rfl⟩

section
variable {H : Type} {enc : TypeId × Value → H} {w : World} {base : Nat} {spare : Nat → Bool} {held : Bool}
theorem open_rows {P : Program} {t e : TypeId} {fs : Array Field} {fuel : Nat} {c : Value} {x : DataW H × List MemPlace} (ht : P.underlying t = some (.slice e)) (he : P.underlying e = some (.struct fs))
    (hone : oneCellFields P fs = true) (hC : P.cellsOf e = fs.size) (hpos : 0 < fs.size) (h : DataW.trod enc P w base spare held fuel t [c] = some x) :
    ∃ (a : Option Addr) (len cap : Nat), c = .slice a len cap ∧ len ≤ cap ∧ len ≤ 9223372036854775807 ∧ (len = 0 ∨ ∃ b off, a = some ⟨b, off, none⟩ ∧ b < w.heap.size ∧
      ∀ i, i < len → ∃ (cs : List Value) (n : Nat), cs.length = fs.size ∧ (∀ j, j < fs.size → w.cell? ⟨b, off + i * fs.size + j, none⟩ = cs[j]?) ∧ ∀ (j : Nat) (f : Field), fs[j]? = some f → ∃ c y, cs[j]? = some c ∧ DataW.trod enc P w base spare held n f.type [c] = some y) := by
  rcases open_slice ht h with ⟨hc, _⟩ | ⟨a, len, cap, m, n, D, Pl, hcs, hb, hl, hm, hmm, hx, hi⟩
  · have hc' : c = .slice none 0 0 := by simpa using hc
    exact ⟨none, 0, 0, hc', Nat.le_refl _, by omega, .inl rfl⟩
  · have hc : c = .slice (some a) len cap := by simpa using hcs
    refine ⟨some a, len, cap, hc, hl, by unfold maxLen at hm; omega, ?_⟩
    rcases Nat.eq_zero_or_pos len with h0 | h0
    · exact .inl h0
    have hml : len ≤ m := by rw [hmm]; split <;> omega
    have hget : ∀ i, i < len → ∃ (cs : List Value) (n : Nat), cs.length = fs.size ∧ (∀ j, j < fs.size → w.cell? ((a.add (i * fs.size)).add j) = cs[j]?) ∧ ∀ (j : Nat) (f : Field), fs[j]? = some f → ∃ c y, cs[j]? = some c ∧ DataW.trod enc P w base spare held n f.type [c] = some y := by
      intro i hil
      obtain ⟨cs', hc, ht'⟩ := hi i (by omega)
      rw [hC] at hc
      obtain ⟨_, hcl, hat⟩ := World.cells?_some hc
      obtain ⟨ys, n', h1, h2, h3, h4⟩ := open_fields he hone hC ht'
      exact ⟨cs', n', h1, hat, fun j f hj => let ⟨c, y, q1, _, q3⟩ := h4 j f hj; ⟨c, y, q1, q3⟩⟩
    obtain ⟨b, off, spot⟩ := a
    obtain ⟨cs0, _, hl0, hc0, _⟩ := hget 0 h0
    have hc1 := hc0 0 hpos
    rw [List.getElem?_eq_getElem (by omega)] at hc1
    have hspot : spot = none := by simpa [Addr.add] using World.cell?_spot hc1
    subst hspot
    have hbl := World.block_lt_of_cell? w _ hc1
    refine .inr ⟨b, off, rfl, by simpa [Addr.add] using hbl, fun i hil => ?_⟩
    obtain ⟨cs, n, q1, q2, q3⟩ := hget i hil
    exact ⟨cs, n, q1, fun j hj => by have := q2 j hj; simpa [Addr.add_lit] using this, q3⟩

theorem open_u32s {P : Program} {t e : TypeId} {fuel : Nat} {c : Value} {x : DataW H × List MemPlace} (ht : P.underlying t = some (.slice e)) (he : P.underlying e = some (.int .u32)) (hc : P.cellsOf e = 1)
    (h : DataW.trod enc P w base spare held fuel t [c] = some x) : ∃ a l k, c = .slice a (List.length l) k ∧ l.length ≤ k ∧ U32s w a l := by
  rcases open_ints ht he hc h with ⟨hcs, hx⟩ | ⟨x', l, k, zs, hcs, _, hl, hm, hz, hx, hcell, hwz⟩
  · have hc' : c = .slice none 0 0 := by simpa using hcs
    exact ⟨none, [], 0, hc', Nat.le_refl _, U32s.nil _ _⟩
  · have hlz : l ≤ zs.length := by rw [hz]; split <;> omega
    have hlen : ((zs.take l).map Int.toNat).length = l := by simp; omega
    have hc' : c = .slice (some x') l k := by simpa using hcs
    have hrange : ∀ n ∈ zs, 0 ≤ n ∧ n ≤ 4294967295 := by
      intro n hn
      have := hwz n hn
      simp [Lit.wf, IntKind.min, IntKind.max, IntKind.bits, IntKind.signed] at this
      omega
    refine ⟨some x', (zs.take l).map Int.toNat, k, by rw [hlen]; exact hc', by omega, ⟨?_, by unfold maxLen at hm; omega, ?_⟩⟩
    · intro d hd
      obtain ⟨n, hn, rfl⟩ := List.mem_map.1 hd
      have := hrange n (List.mem_of_mem_take hn)
      omega
    · rcases Nat.eq_zero_or_pos l with h0 | h0
      · left; subst h0; simp
      · obtain ⟨b, off, spot⟩ := x'
        have hc0 := hcell 0 (by omega)
        have hspot : spot = none := by simpa [Addr.add] using World.cell?_spot hc0
        subst hspot
        have hb := World.block_lt_of_cell? w _ hc0
        refine .inr ⟨b, off, rfl, by simpa [Addr.add] using hb, ?_⟩
        intro j d hj
        have hj' : j < l := by have := (List.getElem?_eq_some_iff.1 hj).1; omega
        have h1 := hcell j (by omega)
        rw [List.getElem?_map, List.getElem?_take_of_lt hj', List.getElem?_eq_getElem (by omega)] at hj
        simp at hj
        have hr := hrange _ (List.getElem_mem (l := zs) (n := j) (by omega))
        have e : zs.getD j 0 = (d : Int) := by
          rw [List.getD_eq_getElem?_getD, List.getElem?_eq_getElem (by omega)]
          simp only [Option.getD_some]
          omega
        rw [e] at h1
        simpa [Addr.add_lit] using h1

theorem Try.rat_parts : ∃ f0 f1 f2 : Field, Try.prog.underlying 25 = some (.struct #[f0, f1, f2]) ∧ oneCellFields Try.prog #[f0, f1, f2] = true ∧ f0.type = 4 ∧ f1.type = 23 ∧ f2.type = 23 :=
  ⟨_, _, _, Try.underlying25, by kernel_rfl, rfl, rfl, rfl⟩
theorem Try.cellsU32 : Try.prog.cellsOf 83 = 1 := by kernel_rfl
theorem Try.cellsInt1 : Try.prog.cellsOf 3 = 1 := by kernel_rfl

def OpRange (x : OpL) : Prop := (I64 x.kind ∧ I64 x.cols ∧ I64 x.inner ∧ I64 x.shift) ∧ I64 x.src ∧ I64 x.other ∧ I64 x.dst ∧ I64 x.mul
end

end Go.Proofs.Ytfmhedfiklidhaa

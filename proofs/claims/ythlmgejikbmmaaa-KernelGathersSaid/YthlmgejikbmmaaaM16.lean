/-
  Contracts of the functions that the statements reach, in the order in which they are built: OpenP.
-/
import Derived.Test.YthlmgejikbmmaaaM2
import Derived.Test.YthlmgejikbmmaaaM15
set_option linter.unusedVariables false
set_option linter.unusedSimpArgs false
set_option linter.constructorNameAsVariable false
set_option linter.deprecated false

/-
  Opening a parameter of bytes.
-/
namespace Go.Proofs.Ythlmgejikbmmaaa
open Go.RowKit Go.ChangeShapes Go.WideShapes Go.ChangeAt Go.Deep

theorem Try.cellsU8 : Try.prog.cellsOf 5 = 1 := by kernel_rfl
section
variable {H : Type} {enc : TypeId × Value → H} {w : World} {base : Nat} {spare : Nat → Bool} {held : Bool}
theorem open_bytes {P : Program} {t e : TypeId} {fuel : Nat} {cs : List Value} {x : DataW H × List MemPlace} (ht : P.underlying t = some (.slice e)) (he : P.underlying e = some (.int .u8)) (hc : P.cellsOf e = 1)
    (h : DataW.trod enc P w base spare held fuel t cs = some x) : ∃ a l c, cs = [.slice a l.length c] ∧ U8s w a l ∧ l.length ≤ c := by
  rcases open_ints ht he hc h with ⟨hcs, hx⟩ | ⟨x', l, c, zs, hcs, _, hl, hm, hz, hx, hcell, hwz⟩
  · exact ⟨none, [], 0, hcs, ⟨by simp, by simp, .inl rfl⟩, Nat.le_refl _⟩
  · have hlz : l ≤ zs.length := by rw [hz]; split <;> omega
    have hlen : (zs.take l).length = l := by simp; omega
    refine ⟨_, zs.take l, c, by rw [hlen]; exact hcs, ?_, by omega⟩
    refine ⟨?_, by unfold maxLen at hm; omega, ?_⟩
    · intro n hn
      have := hwz n (List.mem_of_mem_take hn)
      simp [Lit.wf, IntKind.min, IntKind.max, IntKind.bits, IntKind.signed] at this
      omega
    · by_cases h0 : zs.take l = []
      · exact .inl h0
      · have h1 : 0 < (zs.take l).length := List.length_pos_iff.2 h0
        obtain ⟨b, off, spot⟩ := x'
        have hc := hcell 0 (by omega)
        have hspot : spot = none := by simpa [Addr.add] using World.cell?_spot hc
        subst hspot
        have hb := World.block_lt_of_cell? w _ hc
        refine .inr ⟨b, off, rfl, by simpa [Addr.add] using hb, ?_⟩
        intro j hj
        have hj' : j < l := by omega
        have := hcell j (by omega)
        have e : (zs.take l).getD j 0 = zs.getD j 0 := by
          rw [List.getD_eq_getElem?_getD, List.getElem?_take_of_lt hj', ← List.getD_eq_getElem?_getD]
        rw [e]
        simpa [Addr.add_lit] using this
set_option maxRecDepth 100000 in
theorem open_u8s {r : Reach} {b0 : Nat} {v : Value} {d : DataW H} {p : List MemPlace} (hv : Value.okWide Try.prog w r b0 48 v)
    (h : DataW.Trod enc Try.prog w base spare held 48 v d p) : ∃ a l c, v = .slice a (List.length l) c ∧ U8s w a l := by
  obtain ⟨a0, len0, cap0, rfl⟩ := okWide_slice Try.underlying48 hv
  obtain ⟨fuel, hf⟩ := h
  obtain ⟨a, l, c, hcs, hI, _⟩ := open_bytes Try.underlying48 Try.underlying5 Try.cellsU8 hf
  simp [Value.cells] at hcs
  obtain ⟨rfl, rfl, rfl⟩ := hcs
  exact ⟨_, _, _, rfl, hI⟩
end

end Go.Proofs.Ythlmgejikbmmaaa

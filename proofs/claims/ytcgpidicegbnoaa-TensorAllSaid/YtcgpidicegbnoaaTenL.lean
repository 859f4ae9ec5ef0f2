/-
  The walks of three statements on layer 11: TensorValid, TensorIndex, TensorAt return true and turn nothing that was there.
-/
import Derived.Test.YtcgpidicegbnoaaTenH
import Derived.Test.YtcgpidicegbnoaaTenC
namespace Go.Proofs.Ytcgpidicegbnoaa
open Go.RowKit

/-- What the frame of a law tells of a slice of integers that came in. -/
theorem Ints.of_row {w : World} {a : Option Addr} {len cap : Nat} {zs : List Int}
    (h : (a = none ∧ len = 0 ∧ cap = 0 ∧ zs = []) ∨ ∃ x, a = some x ∧ len ≤ cap ∧ cap ≤ maxLen ∧ zs.length = cap ∧ (∀ i, i < zs.length → w.cell? (x.add i) = some (.int .i64 (zs.getD i 0))) ∧ ∀ n ∈ zs, (Lit.int .i64 n).wf = true) :
    (zs.take len).length = len ∧ Ints w Any a (zs.take len) := by
  rcases h with ⟨rfl, rfl, rfl, rfl⟩ | ⟨x, rfl, hl, hm, hz, hcell, hwz⟩
  · exact ⟨rfl, Ints.nil _ _ _⟩
  · have hlen : (zs.take len).length = len := by simp; omega
    refine ⟨hlen, ?_, by unfold maxLen at hm; omega, ?_⟩
    · intro n hn
      have := hwz n (List.mem_of_mem_take hn)
      simp [Lit.wf, IntKind.min, IntKind.max, IntKind.bits, IntKind.signed] at this
      omega
    · by_cases h0 : zs.take len = []
      · exact .inl h0
      · have h1 : 0 < (zs.take len).length := List.length_pos_iff.2 h0
        obtain ⟨b, off, spot⟩ := x
        have hc := hcell 0 (by omega)
        have hspot : spot = none := by simpa [Addr.add] using World.cell?_spot hc
        subst hspot
        have hb := World.block_lt_of_cell? w _ hc
        refine .inr ⟨b, off, rfl, trivial, by simpa [Addr.add] using hb, ?_⟩
        intro j d hj
        have hj' : j < len := by have := (List.getElem?_eq_some_iff.1 hj).1; omega
        have := hcell j (by omega)
        rw [List.getElem?_take_of_lt hj'] at hj
        simpa [Addr.add_lit, List.getD, hj] using this

set_option maxHeartbeats 800000 in
theorem lawTensorValid {w : World} {a : Option Addr} {l : List Int} (cap : Nat) (h : Ints w Any a l) :
    Calls Try.prog 7 #[.slice a l.length cap] w fun e w' => e = .returned (.bool true) ∧ Below w.heap.size w w' := by
  have HA := Lib.hid (awake11 w)
  go_enter Try.func7, Try.ntmps7
  go_wp2_with fail
  refine HA.out.mono ?_
  rintro e w1 ⟨rfl, hb⟩
  have h1 := h.below hb
  have k1 := Lib.hid (tValid cap h1)
  have k2 := Lib.hid (rValid cap h1)
  have k3 := Lib.hid (tSize cap h1)
  have k4 := Lib.hid (rSize cap h1)
  clear h1 h
  go_wp2_with (first
    | (go_at_call 25; refine k1.out.mono ?_; rintro e w' ⟨rfl, rfl⟩)
    | (go_at_call 26; refine k2.out.mono ?_; rintro e w' ⟨rfl, rfl⟩)
    | (go_at_call 27; refine k3.out.mono ?_; rintro e w' ⟨rfl, rfl⟩)
    | (go_at_call 24; refine k4.out.mono ?_; rintro e w' ⟨rfl, rfl⟩))
  go_ret
  exact ⟨rfl, hb⟩

set_option maxHeartbeats 800000 in
theorem lawTensorIndex {w : World} {a b : Option Addr} {l m : List Int} (ca cb : Nat) (h : Ints w Any a l) (g : Ints w Any b m) :
    Calls Try.prog 3 #[.slice a l.length ca, .slice b m.length cb] w fun e w' => e = .returned (.bool true) ∧ Below w.heap.size w w' := by
  have HA := Lib.hid (awake11 w)
  go_enter Try.func3, Try.ntmps3
  go_wp2_with fail
  refine HA.out.mono ?_
  rintro e w1 ⟨rfl, hb⟩
  have k1 := Lib.hid (tIndex ca cb (h.below hb) (g.below hb))
  have k2 := Lib.hid (rIndex ca cb (h.below hb) (g.below hb))
  clear h g
  go_wp2_with (first
    | (go_at_call 17; refine k1.out.mono ?_; rintro e w' ⟨rfl, rfl⟩)
    | (go_at_call 18; refine k2.out.mono ?_; rintro e w' ⟨rfl, n, rfl⟩))
  go_ret
  exact ⟨rfl, below_drewN hb _⟩

set_option maxHeartbeats 800000 in
theorem lawTensorAt {w : World} {a : Option Addr} {l : List Int} (cap : Nat) (i : Int) (h : Ints w Any a l) :
    Calls Try.prog 8 #[.slice a l.length cap, .int .i64 i] w fun e w' => e = .returned (.bool true) ∧ Below w.heap.size w w' := by
  have HA := Lib.hid (awake11 w)
  go_enter Try.func8, Try.ntmps8
  go_wp2_with fail
  refine HA.out.mono ?_
  rintro e w1 ⟨rfl, hb⟩
  have h1 := h.below hb
  clear h
  go_wp2_with fail
  refine (tAt cap i h1).mono ?_
  rintro e w2 ⟨v, rfl, a1, c1, rfl, hi, hb2⟩
  have h2 := h1.below hb2
  clear h1
  go_wp2_with fail
  refine (rAt cap i h2).mono ?_
  rintro e w3 ⟨v, rfl, a2, c2, rfl, hj, hb3⟩
  have hi' := hi.below hb3
  clear h2 hi
  go_wp2_with fail
  refine (rInts_as c1 c2 hi' hj (show sameL _ _ = true from by simp [sameL])).mono ?_
  rintro e w4 ⟨rfl, hb4⟩
  have hB : Below w.heap.size w w4 := hb.trans ((hb2.mono hb.size).trans ((hb3.mono (Nat.le_trans hb.size hb2.size)).trans (hb4.mono (Nat.le_trans hb.size (Nat.le_trans hb2.size hb3.size)))))
  go_wp2
  go_ret
  exact ⟨rfl, hB⟩

end Go.Proofs.Ytcgpidicegbnoaa

/-
  The walks of layer 53's small, and of the statements Im2colGather and Im2colPool.
-/
import Derived.Test.YtcgpidicegbnoaaColE
import Derived.Test.YtcgpidicegbnoaaTenN
namespace Go.Proofs.Ytcgpidicegbnoaa
open Go.RowKit

set_option maxHeartbeats 1600000 in
theorem small53 {w : World} {a : Option Addr} {l : List Int} (c : Nat) (kind fr o kh kw s p : Int) (aw : Option Addr) (nw cw : Nat) (ab : Option Addr) (nb cb : Nat) (h : Ints w Any a l) :
    Calls Try.prog 32 #[.slice a l.length c, layerV kind fr o kh kw s p aw nw cw ab nb cb] w fun e w' => (∃ t, e = .returned (.bool t)) ∧ Below w.heap.size w w' := by
  have h1 := h.below ((Below.refl _ w).alloc (Nat.le_refl _) (.cells #[.int .i64 kind, .int .i64 fr, .int .i64 o, .int .i64 kh, .int .i64 kw, .int .i64 s, .int .i64 p, .slice aw nw cw, .slice ab nb cb] 44))
  have hlen := h.len
  have HZ := Lib.hid (rSize c h1)
  clear h h1
  by_cases g0 : l.length ≤ 5
  · by_cases g1 : sizeL l ≤ 100
    · by_cases g2 : kh ≤ 6
      · by_cases g3 : kw ≤ 6
        · by_cases g4 : p ≤ 4
          · go_enter Try.func32, Try.ntmps32
            go_wp2_with (go_at_call 24; refine HZ.out.mono ?_; rintro e w' ⟨rfl, rfl⟩)
            go_ret
            first
              | exact ⟨⟨_, rfl⟩, (Below.refl _ _).alloc (Nat.le_refl _) _⟩
              | exact ⟨.inl rfl, (Below.refl _ _).alloc (Nat.le_refl _) _⟩
              | exact ⟨.inr rfl, (Below.refl _ _).alloc (Nat.le_refl _) _⟩
          · go_enter Try.func32, Try.ntmps32
            go_wp2_with (go_at_call 24; refine HZ.out.mono ?_; rintro e w' ⟨rfl, rfl⟩)
            go_ret
            first
              | exact ⟨⟨_, rfl⟩, (Below.refl _ _).alloc (Nat.le_refl _) _⟩
              | exact ⟨.inl rfl, (Below.refl _ _).alloc (Nat.le_refl _) _⟩
              | exact ⟨.inr rfl, (Below.refl _ _).alloc (Nat.le_refl _) _⟩
        · go_enter Try.func32, Try.ntmps32
          go_wp2_with (go_at_call 24; refine HZ.out.mono ?_; rintro e w' ⟨rfl, rfl⟩)
          go_ret
          first
            | exact ⟨⟨_, rfl⟩, (Below.refl _ _).alloc (Nat.le_refl _) _⟩
            | exact ⟨.inl rfl, (Below.refl _ _).alloc (Nat.le_refl _) _⟩
            | exact ⟨.inr rfl, (Below.refl _ _).alloc (Nat.le_refl _) _⟩
      · go_enter Try.func32, Try.ntmps32
        go_wp2_with (go_at_call 24; refine HZ.out.mono ?_; rintro e w' ⟨rfl, rfl⟩)
        go_ret
        first
          | exact ⟨⟨_, rfl⟩, (Below.refl _ _).alloc (Nat.le_refl _) _⟩
          | exact ⟨.inl rfl, (Below.refl _ _).alloc (Nat.le_refl _) _⟩
          | exact ⟨.inr rfl, (Below.refl _ _).alloc (Nat.le_refl _) _⟩
    · go_enter Try.func32, Try.ntmps32
      go_wp2_with (go_at_call 24; refine HZ.out.mono ?_; rintro e w' ⟨rfl, rfl⟩)
      go_ret
      first
        | exact ⟨⟨_, rfl⟩, (Below.refl _ _).alloc (Nat.le_refl _) _⟩
        | exact ⟨.inl rfl, (Below.refl _ _).alloc (Nat.le_refl _) _⟩
        | exact ⟨.inr rfl, (Below.refl _ _).alloc (Nat.le_refl _) _⟩
  · go_enter Try.func32, Try.ntmps32
    go_wp2_with (go_at_call 24; refine HZ.out.mono ?_; rintro e w' ⟨rfl, rfl⟩)
    go_ret
    first
      | exact ⟨⟨_, rfl⟩, (Below.refl _ _).alloc (Nat.le_refl _) _⟩
      | exact ⟨.inl rfl, (Below.refl _ _).alloc (Nat.le_refl _) _⟩
      | exact ⟨.inr rfl, (Below.refl _ _).alloc (Nat.le_refl _) _⟩

set_option maxRecDepth 100000 in
set_option maxHeartbeats 3200000 in
theorem lawIm2colGather {w : World} {a : Option Addr} {l : List Int} (c : Nat) (kind fr o kh kw s p : Int) (aw : Option Addr) (nw cw : Nat) (ab : Option Addr) (nb cb : Nat) (h : Ints w Any a l) :
    Calls Try.prog 11 #[.slice a l.length c, layerV kind fr o kh kw s p aw nw cw ab nb cb] w fun e w' => e = .returned (.bool true) ∧ Below w.heap.size w w' := by
  have HA := Lib.hid (awake53 (w.alloc (.cells #[.int .i64 kind, .int .i64 fr, .int .i64 o, .int .i64 kh, .int .i64 kw, .int .i64 s, .int .i64 p, .slice aw nw cw, .slice ab nb cb] 44)))
  have HC : Hid (∀ w', Below (w.heap.size + 1) (w.alloc (.cells #[.int .i64 kind, .int .i64 fr, .int .i64 o, .int .i64 kh, .int .i64 kw, .int .i64 s, .int .i64 p, .slice aw nw cw, .slice ab nb cb] 44)) w' →
      (w'.cell? ⟨w.heap.size, 0, none⟩ = some (.int .i64 kind) ∧ w'.cell? ⟨w.heap.size, 1, none⟩ = some (.int .i64 fr) ∧ w'.cell? ⟨w.heap.size, 2, none⟩ = some (.int .i64 o) ∧ w'.cell? ⟨w.heap.size, 3, none⟩ = some (.int .i64 kh) ∧ w'.cell? ⟨w.heap.size, 4, none⟩ = some (.int .i64 kw) ∧ w'.cell? ⟨w.heap.size, 5, none⟩ = some (.int .i64 s) ∧ w'.cell? ⟨w.heap.size, 6, none⟩ = some (.int .i64 p) ∧ w'.cell? ⟨w.heap.size, 7, none⟩ = some (.slice aw nw cw) ∧ w'.cell? ⟨w.heap.size, 8, none⟩ = some (.slice ab nb cb)) ∧ Below w.heap.size w w' ∧ w.heap.size + 1 ≤ w'.heap.size) := fun w' hb =>
    ⟨⟨box_cells hb 0 _ rfl, box_cells hb 1 _ rfl, box_cells hb 2 _ rfl, box_cells hb 3 _ rfl, box_cells hb 4 _ rfl, box_cells hb 5 _ rfl, box_cells hb 6 _ rfl, box_cells hb 7 _ rfl, box_cells hb 8 _ rfl⟩,
      ((Below.refl _ w).alloc (Nat.le_refl _) _).trans (hb.mono (by omega)), by have := hb.size; simpa using this⟩
  have HI := Lib.hid h
  have hlen := h.len
  clear h
  go_enter Try.func11, Try.ntmps11
  go_wp2_with fail
  refine HA.out.mono ?_
  rintro e w1 ⟨rfl, hb1⟩
  simp only [World.size_alloc] at hb1
  obtain ⟨⟨c0, c1, c2, c3, c4, c5, c6, c7, c8⟩, hw1, hs1⟩ := HC.out w1 hb1
  have HS := Lib.hid (small53 c kind fr o kh kw s p aw nw cw ab nb cb (HI.out.below hw1))
  have HW1 := Lib.hid hw1
  have HB1 := Lib.hid hb1
  clear hw1 hb1
  go_wp2_with fail
  refine HS.out.mono ?_
  rintro e w2 ⟨⟨t, rfl⟩, hb2⟩
  have HB2 : Hid (Below (w.heap.size + 1) (w.alloc (.cells #[.int .i64 kind, .int .i64 fr, .int .i64 o, .int .i64 kh, .int .i64 kw, .int .i64 s, .int .i64 p, .slice aw nw cw, .slice ab nb cb] 44)) w2) := HB1.out.trans (hb2.mono hs1)
  clear c0 c1 c2 c3 c4 c5 c6 c7 c8 hb2 HS HW1
  obtain ⟨⟨c0, c1, c2, c3, c4, c5, c6, c7, c8⟩, hw2, hs2⟩ := HC.out w2 HB2.out
  have HW2 := Lib.hid hw2
  clear hw2
  cases t
  · go_wp2
    go_ret
    exact ⟨rfl, HW2.out⟩
  go_wp2_with fail
  refine (tGather c kind fr o kh kw s p aw nw cw ab nb cb (HI.out.below HW2.out)).mono ?_
  rintro e w3 ⟨aA, cA, rfl, hA, hb3⟩
  have HB3 : Hid (Below (w.heap.size + 1) (w.alloc (.cells #[.int .i64 kind, .int .i64 fr, .int .i64 o, .int .i64 kh, .int .i64 kw, .int .i64 s, .int .i64 p, .slice aw nw cw, .slice ab nb cb] 44)) w3) := HB2.out.trans (hb3.mono hs2)
  have HAa := Lib.hid hA
  clear c0 c1 c2 c3 c4 c5 c6 c7 c8 hb3 hA
  obtain ⟨⟨c0, c1, c2, c3, c4, c5, c6, c7, c8⟩, hw3, hs3⟩ := HC.out w3 HB3.out
  have HW3 := Lib.hid hw3
  clear hw3
  go_wp2_with fail
  refine (rGather c kind fr o kh kw s p aw nw cw ab nb cb (HI.out.below HW3.out)).mono ?_
  rintro e w4 ⟨aB, cB, rfl, hB, hb4⟩
  have HA4 := Lib.hid (HAa.out.below hb4)
  have HB := Lib.hid hB
  have HW4 : Hid (Below w.heap.size w w4) := HW3.out.trans (hb4.mono (by omega))
  clear c0 c1 c2 c3 c4 c5 c6 c7 c8 hb4 hB HAa
  generalize gatherL l kind kh kw s p = R at *
  obtain ⟨R, rr, cc, ee⟩ := R
  dsimp only at HA4 HB
  go_wp2_with fail
  refine (rInts_as cA cB HA4.out HB.out (show sameL R R = true by simp [sameL])).mono ?_
  rintro e w5 ⟨rfl, hb5⟩
  go_wp2
  go_ret
  exact ⟨rfl, HW4.out.trans (hb5.mono HW4.out.size)⟩

set_option maxRecDepth 100000 in
set_option maxHeartbeats 3200000 in
theorem lawIm2colPool {w : World} {a : Option Addr} {l : List Int} (c : Nat) (kind fr o kh kw s p : Int) (aw : Option Addr) (nw cw : Nat) (ab : Option Addr) (nb cb : Nat) (h : Ints w Any a l) :
    Calls Try.prog 12 #[.slice a l.length c, layerV kind fr o kh kw s p aw nw cw ab nb cb] w fun e w' => e = .returned (.bool true) ∧ Below w.heap.size w w' := by
  have HA := Lib.hid (awake53 (w.alloc (.cells #[.int .i64 kind, .int .i64 fr, .int .i64 o, .int .i64 kh, .int .i64 kw, .int .i64 s, .int .i64 p, .slice aw nw cw, .slice ab nb cb] 44)))
  have HC : Hid (∀ w', Below (w.heap.size + 1) (w.alloc (.cells #[.int .i64 kind, .int .i64 fr, .int .i64 o, .int .i64 kh, .int .i64 kw, .int .i64 s, .int .i64 p, .slice aw nw cw, .slice ab nb cb] 44)) w' →
      (w'.cell? ⟨w.heap.size, 0, none⟩ = some (.int .i64 kind) ∧ w'.cell? ⟨w.heap.size, 1, none⟩ = some (.int .i64 fr) ∧ w'.cell? ⟨w.heap.size, 2, none⟩ = some (.int .i64 o) ∧ w'.cell? ⟨w.heap.size, 3, none⟩ = some (.int .i64 kh) ∧ w'.cell? ⟨w.heap.size, 4, none⟩ = some (.int .i64 kw) ∧ w'.cell? ⟨w.heap.size, 5, none⟩ = some (.int .i64 s) ∧ w'.cell? ⟨w.heap.size, 6, none⟩ = some (.int .i64 p) ∧ w'.cell? ⟨w.heap.size, 7, none⟩ = some (.slice aw nw cw) ∧ w'.cell? ⟨w.heap.size, 8, none⟩ = some (.slice ab nb cb)) ∧ Below w.heap.size w w' ∧ w.heap.size + 1 ≤ w'.heap.size) := fun w' hb =>
    ⟨⟨box_cells hb 0 _ rfl, box_cells hb 1 _ rfl, box_cells hb 2 _ rfl, box_cells hb 3 _ rfl, box_cells hb 4 _ rfl, box_cells hb 5 _ rfl, box_cells hb 6 _ rfl, box_cells hb 7 _ rfl, box_cells hb 8 _ rfl⟩,
      ((Below.refl _ w).alloc (Nat.le_refl _) _).trans (hb.mono (by omega)), by have := hb.size; simpa using this⟩
  have HI := Lib.hid h
  have hlen := h.len
  clear h
  go_enter Try.func12, Try.ntmps12
  go_wp2_with fail
  refine HA.out.mono ?_
  rintro e w1 ⟨rfl, hb1⟩
  simp only [World.size_alloc] at hb1
  obtain ⟨⟨c0, c1, c2, c3, c4, c5, c6, c7, c8⟩, hw1, hs1⟩ := HC.out w1 hb1
  have HS := Lib.hid (small53 c kind fr o kh kw s p aw nw cw ab nb cb (HI.out.below hw1))
  have HW1 := Lib.hid hw1
  have HB1 := Lib.hid hb1
  clear hw1 hb1
  go_wp2_with fail
  refine HS.out.mono ?_
  rintro e w2 ⟨⟨t, rfl⟩, hb2⟩
  have HB2 : Hid (Below (w.heap.size + 1) (w.alloc (.cells #[.int .i64 kind, .int .i64 fr, .int .i64 o, .int .i64 kh, .int .i64 kw, .int .i64 s, .int .i64 p, .slice aw nw cw, .slice ab nb cb] 44)) w2) := HB1.out.trans (hb2.mono hs1)
  clear c0 c1 c2 c3 c4 c5 c6 c7 c8 hb2 HS HW1
  obtain ⟨⟨c0, c1, c2, c3, c4, c5, c6, c7, c8⟩, hw2, hs2⟩ := HC.out w2 HB2.out
  have HW2 := Lib.hid hw2
  clear hw2
  cases t
  · go_wp2
    go_ret
    exact ⟨rfl, HW2.out⟩
  go_wp2_with fail
  refine (tPool c kind fr o kh kw s p aw nw cw ab nb cb (HI.out.below HW2.out)).mono ?_
  rintro e w3 ⟨aA, cA, rfl, hA, hb3⟩
  have HB3 : Hid (Below (w.heap.size + 1) (w.alloc (.cells #[.int .i64 kind, .int .i64 fr, .int .i64 o, .int .i64 kh, .int .i64 kw, .int .i64 s, .int .i64 p, .slice aw nw cw, .slice ab nb cb] 44)) w3) := HB2.out.trans (hb3.mono hs2)
  have HAa := Lib.hid hA
  clear c0 c1 c2 c3 c4 c5 c6 c7 c8 hb3 hA
  obtain ⟨⟨c0, c1, c2, c3, c4, c5, c6, c7, c8⟩, hw3, hs3⟩ := HC.out w3 HB3.out
  have HW3 := Lib.hid hw3
  clear hw3
  go_wp2_with fail
  refine (rPool c kind fr o kh kw s p aw nw cw ab nb cb (HI.out.below HW3.out)).mono ?_
  rintro e w4 ⟨aB, cB, rfl, hB, hb4⟩
  have HA4 := Lib.hid (HAa.out.below hb4)
  have HB := Lib.hid hB
  have HW4 : Hid (Below w.heap.size w w4) := HW3.out.trans (hb4.mono (by omega))
  clear c0 c1 c2 c3 c4 c5 c6 c7 c8 hb4 hB HAa
  generalize poolL l kind kh kw s = R at *
  obtain ⟨R, cc, ee⟩ := R
  dsimp only at HA4 HB
  go_wp2_with fail
  refine (rInts_as cA cB HA4.out HB.out (show sameL R R = true by simp [sameL])).mono ?_
  rintro e w5 ⟨rfl, hb5⟩
  go_wp2
  go_ret
  exact ⟨rfl, HW4.out.trans (hb5.mono HW4.out.size)⟩

end Go.Proofs.Ytcgpidicegbnoaa

/-
  The walk of layer 11's awake: it returns true and turns nothing that was there.
-/
import Derived.Test.YtcgpidicegbnoaaTenG
namespace Go.Proofs.Ytcgpidicegbnoaa
open Go.RowKit

theorem tIndex_as {w : World} {F G : Nat → Prop} {a b : Option Addr} {l m : List Int} (ca cb : Nat) (h : Ints w F a l) (g : Ints w G b m) {p : Int × Int} (hp : indexL l m = p) :
    Calls Try.prog 17 #[.slice a l.length ca, .slice b m.length cb] w fun e w' => e = .returned (.tuple #[.int .i64 p.1, .int .i64 p.2]) ∧ w = w' := by
  subst hp
  exact tIndex ca cb h g

theorem rInts_as {w : World} {F G : Nat → Prop} {a b : Option Addr} {l m : List Int} (ca cb : Nat) (h : Ints w F a l) (g : Ints w G b m) {t : Bool} (hp : sameL l m = t) :
    Calls Try.prog 22 #[.slice a l.length ca, .slice b m.length cb] w fun e w' => e = .returned (.bool t) ∧ Below w.heap.size w w' := by
  subst hp
  refine (rInts ca cb h g).mono ?_
  rintro e w' ⟨rfl, n, rfl⟩
  exact ⟨rfl, below_drewN (Below.refl _ _) _⟩

theorem Ints.made2 {w : World} {E : Nat} (x y : Int) (hx : -9223372036854775808 ≤ x ∧ x ≤ 9223372036854775807) (hy : -9223372036854775808 ≤ y ∧ y ≤ 9223372036854775807) :
    Ints (w.alloc (.cells #[.int .i64 x, .int .i64 y] E)) Any (some ⟨w.heap.size, 0, none⟩) [x, y] := by
  refine ⟨by simp; omega, by simp, .inr ⟨w.heap.size, 0, rfl, trivial, by simp, fun j d hj => ?_⟩⟩
  match j, hj with
  | 0, hj => simp at hj; subst hj; simp
  | 1, hj => simp at hj; subst hj; simp

theorem Ints.made4 {w : World} {E : Nat} (x y z u : Int) (hx : -9223372036854775808 ≤ x ∧ x ≤ 9223372036854775807) (hy : -9223372036854775808 ≤ y ∧ y ≤ 9223372036854775807) (hz : -9223372036854775808 ≤ z ∧ z ≤ 9223372036854775807)
    (hu : -9223372036854775808 ≤ u ∧ u ≤ 9223372036854775807) :
    Ints (w.alloc (.cells #[.int .i64 x, .int .i64 y, .int .i64 z, .int .i64 u] E)) Any (some ⟨w.heap.size, 0, none⟩) [x, y, z, u] := by
  refine ⟨by simp; omega, by simp, .inr ⟨w.heap.size, 0, rfl, trivial, by simp, fun j d hj => ?_⟩⟩
  match j, hj with
  | 0, hj => simp at hj; subst hj; simp
  | 1, hj => simp at hj; subst hj; simp
  | 2, hj => simp at hj; subst hj; simp
  | 3, hj => simp at hj; subst hj; simp

/-- The document's example: nine windows. -/
theorem awakeWin_is : (windowsL [1, 2, 2] 2 2 1 1).1.length = 9 ∧ (windowsL [1, 2, 2] 2 2 1 1).2 = (3, 3, 0) ∧ (windowsL [1, 2, 2] 2 2 1 1).1[0]? = some [-1, -1, -1, 0] ∧ (windowsL [1, 2, 2] 2 2 1 1).1[4]? = some [0, 1, 2, 3] := by
  decide +kernel

theorem tWin_awake {w : World} {F : Nat → Prop} {a : Option Addr} (h : Ints w F a [1, 2, 2]) :
    Calls Try.prog 20 #[.slice a 3 3, .int .i64 2, .int .i64 2, .int .i64 1, .int .i64 1] w fun e w' =>
      ∃ b o c a0 c0 a4 c4, e = .returned (.tuple #[.slice (some ⟨b, o, none⟩) 9 c, .int .i64 3, .int .i64 3, .int .i64 0]) ∧ w'.cell? ⟨b, o, none⟩ = some (.slice a0 4 c0) ∧ Ints w' Any a0 [-1, -1, -1, 0] ∧
        w'.cell? ⟨b, o + 4, none⟩ = some (.slice a4 4 c4) ∧ Ints w' Any a4 [0, 1, 2, 3] ∧ b < w'.heap.size ∧ Below w.heap.size w w' := by
  refine (tWin 3 2 2 1 1 h).mono ?_
  rintro e w' ⟨a', c', rfl, hI, hb⟩
  obtain ⟨h1, h2, h3, h4⟩ := awakeWin_is
  generalize (windowsL [1, 2, 2] 2 2 1 1) = R at *
  obtain ⟨L, r, c, x⟩ := R
  simp only [Prod.mk.injEq] at h1 h2 h3 h4
  obtain ⟨rfl, rfl, rfl⟩ := h2
  rcases hI.row with rfl | ⟨b, o, rfl, _, hbs, hc⟩
  · simp at h1
  · obtain ⟨a0, c0, k1, k2, _⟩ := hc 0 _ h3
    obtain ⟨a4, c4, k3, k4, _⟩ := hc 4 _ h4
    exact ⟨b, o, c', a0, c0, a4, c4, by simp only [h1], k1, k2.mono (fun _ _ _ => trivial), k3, k4.mono (fun _ _ _ => trivial), hbs, hb⟩

set_option maxHeartbeats 300000 in
theorem awake11 (w : World) : Calls Try.prog 16 #[] w fun e w' => e = .returned (.bool true) ∧ Below w.heap.size w w' := by
  have hI1 : Ints ((w.alloc (.cells #[.int .i64 2, .int .i64 3] 3)).alloc (.cells #[.int .i64 1, .int .i64 2] 3)) Any (some ⟨w.heap.size, 0, none⟩) [2, 3] :=
    (Ints.made2 (w := w) (E := 3) 2 3 (by omega) (by omega)).below ((Below.refl _ _).alloc (Nat.le_refl _) _)
  have hI2 : Ints ((w.alloc (.cells #[.int .i64 2, .int .i64 3] 3)).alloc (.cells #[.int .i64 1, .int .i64 2] 3)) Any (some ⟨w.heap.size + 1, 0, none⟩) [1, 2] := by
    simpa using Ints.made2 (w := w.alloc (.cells #[.int .i64 2, .int .i64 3] 3)) (E := 3) 1 2 (by omega) (by omega)
  have HA := Lib.hid (tIndex_as 2 2 hI1 hI2 (show indexL [2, 3] [1, 2] = (5, 0) from by decide +kernel))
  have hB1 : Below w.heap.size w ((w.alloc (.cells #[.int .i64 2, .int .i64 3] 3)).alloc (.cells #[.int .i64 1, .int .i64 2] 3)) := ((Below.refl _ _).alloc (Nat.le_refl _) _).alloc (by simp) _
  have HB1 := Lib.hid hB1
  clear hI1 hI2 hB1
  go_enter Try.func16, Try.ntmps16
  go_wp2_with fail
  refine HA.out.mono ?_
  rintro e w' ⟨rfl, rfl⟩
  have hB1 := HB1.out
  generalize ((w.alloc (.cells #[.int .i64 2, .int .i64 3] 3)).alloc (.cells #[.int .i64 1, .int .i64 2] 3)) = w1 at *
  go_wp2_with fail
  refine (tWin_awake (Ints.made3 1 2 2 (by omega) (by omega) (by omega))).mono ?_
  rintro e w2 ⟨b, o, c, a0, c0, a4, c4, rfl, k1, k2, k3, k4, k5, hb2⟩
  have hB2 : Below w.heap.size w w2 := hB1.trans (((Below.refl _ w1).alloc hB1.size _).trans (hb2.mono (by have := hB1.size; simp; omega)))
  clear hB1 hb2
  go_wp2_with fail
  have hq : ∀ o : Obj, Below w2.heap.size w2 (w2.alloc o) := fun o => (Below.refl _ _).alloc (Nat.le_refl _) _
  refine (rInts_as c0 4 (k2.below (hq _)) (Ints.made4 (w := w2) (E := 3) (-1) (-1) (-1) 0 (by omega) (by omega) (by omega) (by omega)) (show sameL _ _ = true from by decide +kernel)).mono ?_
  rintro e w3 ⟨rfl, hb3⟩
  have hB3 : Below w2.heap.size w2 w3 := (hq _).trans (hb3.mono (by simp))
  have k3' := (hB3.cell (p := ⟨b, o + 4, none⟩) k5).trans k3
  have k4' := k4.below hB3
  have hB : Below w.heap.size w w3 := hB2.trans (hB3.mono hB2.size)
  clear hq hb3 hB3 hB2 k1 k2 k3 k4 k5
  go_wp2_with fail
  refine (rInts_as c4 4 (k4'.below ((Below.refl _ w3).alloc (Nat.le_refl _) _)) (Ints.made4 (w := w3) (E := 3) 0 1 2 3 (by omega) (by omega) (by omega) (by omega)) (show sameL _ _ = true from by decide +kernel)).mono ?_
  rintro e w4 ⟨rfl, hb4⟩
  have hB4 : Below w.heap.size w w4 := hB.trans (((Below.refl _ w3).alloc hB.size _).trans (hb4.mono (by have := hB.size; simp; omega)))
  go_wp2
  go_ret
  exact ⟨rfl, hB4⟩

end Go.Proofs.Ytcgpidicegbnoaa

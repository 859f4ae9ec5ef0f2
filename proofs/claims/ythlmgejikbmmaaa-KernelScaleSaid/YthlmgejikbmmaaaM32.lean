/-
  Contracts of the functions that the statements reach, in the order in which they are built: ScaleQ.
-/
import Derived.Test.YthlmgejikbmmaaaM29
import Derived.Test.YthlmgejikbmmaaaM9
set_option linter.unusedVariables false
set_option linter.unusedSimpArgs false
set_option linter.constructorNameAsVariable false
set_option linter.deprecated false

/-
  Rounding a rational, half away from zero. No program in sight.
-/
namespace Go.Proofs.Ythlmgejikbmmaaa
open Go.RowKit

/-- The nearest natural number of the absolute value. -/
def roundN (q : Rat) : Nat := (q.num.natAbs * 2 + q.den) / (q.den * 2)
theorem mkRat_parts (z : Int) {d : Nat} (hd : d ≠ 0) : ∃ g : Nat, 0 < g ∧ z = (mkRat z d).num * (g : Int) ∧ d = (mkRat z d).den * g := by
  obtain ⟨m, hm, h1, h2⟩ := Rat.mkRat_num_den (n := z) (d := d) (n' := (mkRat z d).num) (d' := (mkRat z d).den) (z' := (mkRat z d).den_nz) (c := (mkRat z d).reduced) hd rfl
  exact ⟨m, Nat.pos_of_ne_zero hm, h1, h2⟩
theorem roundN_mkRat (z : Int) {d : Nat} (hd : 0 < d) : roundN (mkRat z d) = (z.natAbs * 2 + d) / (d * 2) := by
  obtain ⟨g, hg, h1, h2⟩ := mkRat_parts z (Nat.pos_iff_ne_zero.1 hd)
  unfold roundN
  generalize (mkRat z d).num = n at *
  generalize (mkRat z d).den = e at *
  have e1 : z.natAbs = n.natAbs * g := by rw [h1, Int.natAbs_mul]; rfl
  rw [e1, h2]
  have e2 : n.natAbs * g * 2 + e * g = (n.natAbs * 2 + e) * g := by rw [Nat.add_mul]; congr 1; rw [Nat.mul_assoc, Nat.mul_comm g 2, ← Nat.mul_assoc]
  have e3 : e * g * 2 = e * 2 * g := by rw [Nat.mul_assoc, Nat.mul_comm g 2, ← Nat.mul_assoc]
  rw [e2, e3, Nat.mul_div_mul_right _ _ hg]
/-- The floor of the absolute value and a half. -/
theorem floor_half (q : Rat) : (mkRat (q.num.natAbs : Int) q.den + 1 / 2).num / ((mkRat (q.num.natAbs : Int) q.den + 1 / 2).den : Int) = (roundN q : Int) := by
  have hd := q.den_pos
  have e0 : (1 / 2 : Rat) = mkRat 1 2 := by decide +kernel
  have e1 : mkRat (q.num.natAbs : Int) q.den + 1 / 2 = mkRat ((q.num.natAbs : Int) * 2 + 1 * q.den) (q.den * 2) := by
    rw [e0, Rat.mkRat_add_mkRat _ _ (by omega) (by decide)]
    rfl
  rw [e1]
  have e2 : ((q.num.natAbs : Int) * 2 + 1 * q.den) = ((q.num.natAbs * 2 + q.den : Nat) : Int) := by omega
  rw [e2]
  unfold roundN
  generalize q.num.natAbs * 2 + q.den = A at *
  have hB : 0 < q.den * 2 := by omega
  generalize q.den * 2 = B at *
  obtain ⟨g, hg, h1, h2⟩ := mkRat_parts (A : Int) (Nat.pos_iff_ne_zero.1 hB)
  generalize (mkRat (A : Int) B).num = n at *
  generalize (mkRat (A : Int) B).den = e at *
  have h3 : ((A / B : Nat) : Int) = (A : Int) / (B : Int) := by simp
  rw [h3, h1, h2, Int.natCast_mul, Int.mul_ediv_mul_of_pos_left _ _ (by omega)]

theorem scale_round (a m : Int) (s : Nat) : roundN (mkRat (a * m) (2 ^ s)) = scaleQ a m s := by
  rw [roundN_mkRat _ (Nat.two_pow_pos s), Int.natAbs_mul]
  unfold scaleQ
  generalize a.natAbs * m.natAbs = P
  by_cases h : s = 0
  · subst h
    simp
    omega
  · rw [if_neg h]
    obtain ⟨t, rfl⟩ : ∃ t, s = t + 1 := ⟨s - 1, by omega⟩
    have h1 := Nat.two_pow_pos t
    rw [Nat.add_sub_cancel, Nat.pow_succ]
    generalize 2 ^ t = T at *
    have e2 : P * 2 + T * 2 = (P + T) * 2 := by omega
    rw [e2, Nat.mul_div_mul_right _ _ (by omega)]

/-- What round hands back: the rounded number with its sign. -/
def roundZ (q : Rat) : Int := if q < 0 then -(roundN q : Int) else (roundN q : Int)
theorem mulpow (a m : Int) (s : Nat) : (a : Rat) * (m : Rat) / ((2 ^ s : Nat) : Rat) = mkRat (a * m) (2 ^ s) := by
  have h : ((2 ^ s : Nat) : Rat) = ((2 ^ s : Nat) : Int) := by simp
  rw [← Rat.intCast_mul, Rat.mkRat_eq_div]
theorem scale_sign (a m : Int) (s : Nat) : ((mkRat (a * m) (2 ^ s)) < 0) ↔ a * m < 0 := mkRat_neg_iff (Nat.two_pow_pos s)
theorem scaleQ_zero {a m : Int} {s : Nat} (h : a = 0 ∨ m = 0) : scaleQ a m s = 0 := by
  unfold scaleQ
  have h0 : a.natAbs * m.natAbs = 0 := by rcases h with rfl | rfl <;> simp
  rw [h0, Nat.zero_add]
  by_cases hs : s = 0
  · rw [if_pos hs]; simp
  · rw [if_neg hs]
    exact Nat.div_eq_of_lt (Nat.pow_lt_pow_right (by omega) (by omega))
/-- The saturated quotient, whatever way it is told. -/
def scaledL (a m : Int) (s : Nat) : Int := clamp32 (if scaleQ a m s ≤ 4611686018427387904 then (if a * m < 0 then -(scaleQ a m s : Int) else (scaleQ a m s : Int)) else if (a < 0) = (m < 0) then 2147483647 else -2147483648)
theorem scaled_eq (a m : Int) (s : Nat) : scaledL a m s = scaleL a m s := by
  unfold scaledL scaleL
  have hcl : ∀ x : Int, 2147483647 ≤ x → clamp32 x = 2147483647 := fun x hx => by unfold clamp32; omega
  have hcm : ∀ x : Int, x ≤ -2147483648 → clamp32 x = -2147483648 := fun x hx => by unfold clamp32; omega
  by_cases hz : a = 0 ∨ m = 0
  · rw [scaleQ_zero hz]
    simp
  · have ha : a ≠ 0 := fun h => hz (.inl h)
    have hm : m ≠ 0 := fun h => hz (.inr h)
    have hs : (a * m < 0) ↔ ¬ ((a < 0) = (m < 0)) := by
      rw [eq_iff_iff]
      rcases Int.lt_or_gt_of_ne ha with h1 | h1 <;> rcases Int.lt_or_gt_of_ne hm with h2 | h2
      · have := Int.mul_pos_of_neg_of_neg h1 h2
        constructor
        · intro h; omega
        · intro h; exact absurd ⟨fun _ => h2, fun _ => h1⟩ h
      · have := Int.mul_neg_of_neg_of_pos h1 h2
        exact ⟨fun _ h => by have := h.1 h1; omega, fun _ => this⟩
      · have := Int.mul_neg_of_pos_of_neg h1 h2
        exact ⟨fun _ h => by have := h.2 h2; omega, fun _ => this⟩
      · have := Int.mul_pos h1 h2
        constructor
        · intro h; omega
        · intro h; exact absurd ⟨fun h => by omega, fun h => by omega⟩ h
    by_cases hc : (a < 0) = (m < 0)
    · rw [if_pos hc, if_neg (fun h => hs.1 h hc), if_pos hc]
      split
      · rfl
      · rw [hcl _ (by omega), hcl _ (by omega)]
    · rw [if_neg hc, if_pos (hs.2 hc), if_neg hc]
      split
      · rfl
      · rw [hcm _ (by omega), hcm _ (by omega)]

end Go.Proofs.Ythlmgejikbmmaaa

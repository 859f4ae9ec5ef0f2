/-
  The plain law of Im2colCover: how often each entry of a 12 by 12 table has been counted.
-/
import Derived.Test.YtcgpidicegbnoaaTile
namespace Go.Proofs.Ytcgpidicegbnoaa
open Go.RowKit

theorem band {n h i r : Nat} (hn : 1 ≤ n) (hh : 1 ≤ h) (hi : i < cutN n (min h n)) (hr : r < n) : r / min h n = i ↔ cutAt n h i ≤ r ∧ r < cutAt n h i + min h (n - cutAt n h i) := by
  have hs : 1 ≤ min h n := by omega
  have e : cutAt n h i = i * min h n := by simp [cutAt, hi]
  rw [e, Nat.div_eq_iff (by omega)]
  have h1 := (cutN_lt (n := n) (i := i) hs).1 hi
  generalize i * min h n = m at *
  omega
theorem band_lt {n h r : Nat} (hn : 1 ≤ n) (hh : 1 ≤ h) (hr : r < n) : r / min h n < cutN n (min h n) :=
  (cutN_lt (by omega)).2 (Nat.lt_of_le_of_lt (Nat.div_mul_le_self _ _) hr)
theorem cut_in {n h i : Nat} (hn : 1 ≤ n) (hh : 1 ≤ h) (hi : i < cutN n (min h n)) : cutAt n h i + min h (n - cutAt n h i) ≤ n := by
  have := (cut_step hn hh hi).1
  omega

/-- Entry x of the table is counted if it belongs to one of the first k tiles. -/
def covF (rows cols h wd k : Nat) : Nat → Nat := fun x => if x / 12 < rows ∧ x % 12 < cols ∧ (x / 12 / min h rows) * cutN cols (min wd cols) + x % 12 / min wd cols < k then 1 else 0
/-- .. and what has been counted of the tile at (R, C) of width Cn - C, up to line r, position c. -/
def midF (f : Nat → Nat) (R C Cn r c : Nat) : Nat → Nat := fun x => f x + if R ≤ x / 12 ∧ C ≤ x % 12 ∧ x % 12 < Cn ∧ (x / 12 < r ∨ (x / 12 = r ∧ x % 12 < c)) then 1 else 0

theorem mid_start (f : Nat → Nat) (R C Cn : Nat) : midF f R C Cn R C = f := by
  funext x; unfold midF; rw [if_neg (by omega)]; rfl
theorem mid_row (f : Nat → Nat) (R C Cn r : Nat) : midF f R C Cn r Cn = midF f R C Cn (r + 1) C := by
  funext x; unfold midF
  congr 1
  by_cases h : R ≤ x / 12 ∧ C ≤ x % 12 ∧ x % 12 < Cn ∧ (x / 12 < r ∨ (x / 12 = r ∧ x % 12 < Cn))
  · rw [if_pos h, if_pos (by omega)]
  · rw [if_neg h, if_neg (by omega)]
theorem mid_step (f : Nat → Nat) {R C Cn r c : Nat} (hr : R ≤ r) (hc : C ≤ c) (hcn : c < Cn) (h12 : c < 12) : midF f R C Cn r (c + 1) = fun x => if x = r * 12 + c then midF f R C Cn r c (r * 12 + c) + 1 else midF f R C Cn r c x := by
  funext x
  by_cases hx : x = r * 12 + c
  · subst hx
    rw [if_pos rfl]
    have e1 : (r * 12 + c) / 12 = r := by omega
    have e2 : (r * 12 + c) % 12 = c := by omega
    unfold midF
    rw [e1, e2, if_pos (by omega), if_neg (by omega)]
  · rw [if_neg hx]
    unfold midF
    congr 1
    by_cases h : R ≤ x / 12 ∧ C ≤ x % 12 ∧ x % 12 < Cn ∧ (x / 12 < r ∨ (x / 12 = r ∧ x % 12 < c))
    · rw [if_pos (by omega), if_pos h]
    · rw [if_neg (by omega), if_neg h]

theorem mid_end {rows cols h wd i j : Nat} (hr : 1 ≤ rows) (hc : 1 ≤ cols) (hh : 1 ≤ h) (hw : 1 ≤ wd) (_hc12 : cols ≤ 12) (hi : i < cutN rows (min h rows)) (hj : j < cutN cols (min wd cols)) :
    midF (covF rows cols h wd (i * cutN cols (min wd cols) + j)) (cutAt rows h i) (cutAt cols wd j) (cutAt cols wd j + min wd (cols - cutAt cols wd j)) (cutAt rows h i + min h (rows - cutAt rows h i)) (cutAt cols wd j) =
      covF rows cols h wd (i * cutN cols (min wd cols) + j + 1) := by
  funext x
  unfold midF covF
  have k1 := cut_in hr hh hi
  have k2 := cut_in hc hw hj
  by_cases h1 : x / 12 < rows ∧ x % 12 < cols
  · have b1 := band hr hh hi h1.1
    have b2 := band hc hw hj h1.2
    have b3 := band_lt hc hw h1.2
    generalize x / 12 / min h rows = p at *
    generalize x % 12 / min wd cols = q at *
    generalize cutN cols (min wd cols) = J at *
    have key : p * J + q = i * J + j ↔ p = i ∧ q = j := by
      constructor
      · intro e
        have e1 : (p * J + q) / J = p := by rw [Nat.mul_comm, Nat.mul_add_div (by omega), Nat.div_eq_of_lt b3, Nat.add_zero]
        have e2 : (i * J + j) / J = i := by rw [Nat.mul_comm, Nat.mul_add_div (by omega), Nat.div_eq_of_lt hj, Nat.add_zero]
        have e3 : p = i := by rw [← e1, ← e2, e]
        subst e3
        exact ⟨rfl, by omega⟩
      · rintro ⟨rfl, rfl⟩; rfl
    generalize p * J + q = P at *
    generalize i * J + j = K at *
    by_cases h2 : P = K
    · have := key.1 h2
      rw [if_neg (by omega), if_pos (by omega), if_pos (by omega)]
    · have : ¬ (p = i ∧ q = j) := fun e => h2 (key.2 e)
      by_cases h3 : P < K
      · rw [if_pos (by omega), if_neg (by omega), if_pos (by omega)]
      · rw [if_neg (by omega), if_neg (by omega), if_neg (by omega)]
  · rw [if_neg (by omega), if_neg (by omega), if_neg (by omega)]

theorem cov_zero (rows cols h wd : Nat) : covF rows cols h wd 0 = fun _ => 0 := by
  funext x; unfold covF; rw [if_neg (fun h => Nat.not_lt_zero _ h.2.2)]
theorem cov_all {rows cols h wd x : Nat} (hr : 1 ≤ rows) (hc : 1 ≤ cols) (hh : 1 ≤ h) (hw : 1 ≤ wd) : covF rows cols h wd (tilesN rows cols h wd) x = if x / 12 < rows ∧ x % 12 < cols then 1 else 0 := by
  unfold covF
  by_cases h1 : x / 12 < rows ∧ x % 12 < cols
  · have b1 := band_lt hr hh h1.1
    have b2 := band_lt hc hw h1.2
    rw [if_pos h1, if_pos]
    refine ⟨h1.1, h1.2, ?_⟩
    unfold tilesN
    have : (x / 12 / min h rows + 1) * cutN cols (min wd cols) ≤ cutN rows (min h rows) * cutN cols (min wd cols) := Nat.mul_le_mul_right _ b1
    rw [Nat.succ_mul] at this
    omega
  · rw [if_neg h1, if_neg (by omega)]

/-- The table's cells. -/
def covA (f : Nat → Nat) : Array Value := ((List.range 144).map fun x => Value.int .i64 (f x)).toArray
theorem covA_get (f : Nat → Nat) {x : Nat} (hx : x < 144) : (covA f)[x]? = some (.int .i64 (f x)) := by simp [covA, hx]
theorem covA_set (f : Nat → Nat) {x : Nat} (_hx : x < 144) (v : Nat) : (covA f).setIfInBounds x (.int .i64 v) = covA (fun y => if y = x then v else f y) := by
  unfold covA
  rw [List.setIfInBounds_toArray]
  congr 1
  apply List.ext_getElem
  · simp
  · intro i h1 h2
    rw [List.getElem_set]
    by_cases h : x = i
    · subst h; simp
    · simp [h, Ne.symm h]

theorem covCell {w : World} {b : Nat} {f : Nat → Nat} {t : TypeId} (h : w.heap[b]? = some (.cells (covA f) t (0, 0))) {x : Nat} (hx : x < 144) : w.cell? ⟨b, x, none⟩ = some (.int .i64 (f x)) := by
  simp [World.cell?, h, covA_get f hx]
theorem covFrozen {w : World} {b : Nat} {f : Nat → Nat} {t : TypeId} (h : w.heap[b]? = some (.cells (covA f) t (0, 0))) (x : Nat) : w.frozen? ⟨b, x, none⟩ = false := by
  simp [World.frozen?, h]
theorem covSet {w : World} {b : Nat} {f : Nat → Nat} {t : TypeId} (h : w.heap[b]? = some (.cells (covA f) t (0, 0))) {x : Nat} (hx : x < 144) (v : Nat) :
    (w.setCell ⟨b, x, none⟩ (.int .i64 v)).heap[b]? = some (.cells (covA (fun y => if y = x then v else f y)) t (0, 0)) := by
  rw [← covA_set f hx]
  simp [World.setCell, Array.getElem?_modify, h]

end Go.Proofs.Ytcgpidicegbnoaa

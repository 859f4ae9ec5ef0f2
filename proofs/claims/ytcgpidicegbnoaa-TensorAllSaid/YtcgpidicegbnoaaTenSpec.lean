/-
  The plain law of layer 11: what the functions of tensor and of its reference compute, on lists of integers. No Go in sight.
-/
import Derived.Test.YtcgpidicegbnoaaBase
namespace Go.Proofs.Ytcgpidicegbnoaa
open Go.RowKit

def validFrom : List Int → Int → Bool
  | [], _ => true
  | d :: r, s => if d < 1 ∨ 16384 < d ∨ 16384 < s * d then false else validFrom r (s * d)
def validL (l : List Int) : Bool := 1 ≤ l.length && l.length ≤ 4 && validFrom l 1
def prodFrom : List Int → Int → Int
  | [], s => s
  | d :: r, s => prodFrom r (s * d)
def sizeL (l : List Int) : Int := if validL l then prodFrom l 1 else 0

theorem validL_inside {l : List Int} (h1 : 1 ≤ l.length) (h4 : l.length ≤ 4) : validFrom (l.drop 0) 1 = validL l := by simp [validL, h1, h4]
theorem validL_none {l : List Int} (h : l.length < 1) : validL l = false := by
  have : ¬ 1 ≤ l.length := by omega
  simp [validL, this]
theorem validL_many {l : List Int} (h : 4 < l.length) : validL l = false := by
  have : ¬ l.length ≤ 4 := by omega
  simp [validL, this]

theorem validFrom_no {d s : Int} {r : List Int} (h : d < 1 ∨ 16384 < d ∨ 16384 < s * d) : validFrom (d :: r) s = false := by simp [validFrom, h]
theorem validFrom_yes {d s : Int} {r : List Int} (h1 : ¬ d < 1) (h2 : ¬ 16384 < d) (h3 : ¬ 16384 < s * d) : validFrom (d :: r) s = validFrom r (s * d) := by simp [validFrom, h1, h2, h3]

theorem mul_bd {s d : Int} (hs1 : 1 ≤ s) (hs2 : s ≤ 16384) (hd1 : 1 ≤ d) (hd2 : d ≤ 16384) : 1 ≤ s * d ∧ s * d ≤ 268435456 := by
  have h1 : 1 * 1 ≤ s * d := Int.mul_le_mul hs1 hd1 (by omega) (by omega)
  have h2 : s * d ≤ 16384 * 16384 := Int.mul_le_mul hs2 hd2 (by omega) (by omega)
  omega

/-- A shape behind a product: each dimension fits, and each product. -/
theorem validFrom_step {l : List Int} {k : Nat} {d s : Int} (hd : l.drop k = d :: l.drop (k + 1)) (h1 : 1 ≤ s) (h : validFrom (l.drop k) s = true) :
    1 ≤ d ∧ d ≤ 16384 ∧ s * d ≤ 16384 ∧ 1 ≤ s * d ∧ validFrom (l.drop (k + 1)) (s * d) = true := by
  rw [hd] at h
  simp only [validFrom] at h
  split at h
  · simp at h
  · rename_i hc
    have h2 : 1 * 1 ≤ s * d := Int.mul_le_mul h1 (by omega) (by omega) (by omega)
    exact ⟨by omega, by omega, by omega, by omega, h⟩

/-- Two lists are one. -/
def sameL (l m : List Int) : Bool := decide (l = m)
theorem sameL_len {l m : List Int} (h : l.length ≠ m.length) : sameL l m = false := by
  unfold sameL; simp; intro e; exact h (by rw [e])
theorem sameL_yes {l m : List Int} (hl : l.length = m.length) (h : l.drop l.length = m.drop l.length → l = m) : sameL l m = true := by
  unfold sameL; simp; exact h (by simp [hl])
theorem sameL_no {l m : List Int} {k : Nat} {c d : Int} (h1 : l[k]? = some c) (h2 : m[k]? = some d) (h : c ≠ d) : sameL l m = false := by
  unfold sameL; simp; intro e; rw [e, h2] at h1; exact h (by simpa using h1.symm)
theorem take_more {l m : List Int} {k : Nat} {c : Int} (h : l.take k = m.take k) (h1 : l[k]? = some c) (h2 : m[k]? = some c) : l.take (k + 1) = m.take (k + 1) := by
  rw [List.take_add_one, List.take_add_one, h, h1, h2]
theorem sameL_full {l m : List Int} {k : Nat} (hk : ¬ k < l.length) (hl : l.length = m.length) (h : l.take k = m.take k) : sameL l m = true := by
  unfold sameL; rw [List.take_of_length_le (by omega), List.take_of_length_le (by omega)] at h; simp [h]

def indexFrom : List Int → List Int → Int → Int × Int
  | d :: r, c :: q, s => if c < 0 ∨ d ≤ c then (0, 2) else indexFrom r q (s * d + c)
  | _, _, s => (s, 0)
def indexL (l m : List Int) : Int × Int := if validL l = true ∧ m.length = l.length then indexFrom l m 0 else (0, 1)

theorem validL_from {l : List Int} (h : validL l = true) : validFrom (l.drop 0) 1 = true := by simp [validL] at h; exact h.2
theorem validL_len {l : List Int} (h : validL l = true) : 1 ≤ l.length ∧ l.length ≤ 4 := by simp [validL] at h; exact h.1

theorem idx_bd {i n d c : Int} (hi : 0 ≤ i) (hin : i < n) (hd : 1 ≤ d) (hc : 0 ≤ c) (hcd : c < d) : 0 ≤ i * d ∧ 0 ≤ i * d + c ∧ i * d + c < n * d := by
  have h1 : 0 * 0 ≤ i * d := Int.mul_le_mul hi (by omega) (by omega) hi
  have h2 : (i + 1) * d ≤ n * d := Int.mul_le_mul_of_nonneg_right (by omega) (by omega)
  rw [Int.add_mul] at h2
  omega

/-- Coordinates from the last one to the first one: what is left of the index, and the coordinates. -/
def coordsFrom : List Int → Int → Int × List Int
  | [], i => (i, [])
  | d :: r, i => ((coordsFrom r i).1 / d, (coordsFrom r i).1 % d :: (coordsFrom r i).2)
def atL (l : List Int) (i : Int) : List Int × Int :=
  if validL l = true then (if i < 0 ∨ sizeL l ≤ i then ([], 2) else ((coordsFrom l i).2, 0)) else ([], 1)

theorem coordsFrom_len (l : List Int) (i : Int) : (coordsFrom l i).2.length = l.length := by
  induction l generalizing i with
  | nil => rfl
  | cons d r ih => simp [coordsFrom, ih]

theorem coordsFrom_nonneg (l : List Int) (i : Int) (hi : 0 ≤ i) (hl : ∀ d ∈ l, 1 ≤ d) : 0 ≤ (coordsFrom l i).1 ∧ (coordsFrom l i).1 ≤ i := by
  induction l generalizing i with
  | nil => simp [coordsFrom]; omega
  | cons d r ih =>
    have h1 := ih i hi (fun x hx => hl x (by simp [hx]))
    have hd := hl d (by simp)
    simp only [coordsFrom]
    refine ⟨Int.ediv_nonneg h1.1 (by omega), ?_⟩
    have := Int.ediv_le_self d h1.1
    omega

theorem validFrom_mem {l : List Int} {s : Int} (h : validFrom l s = true) : ∀ d ∈ l, 1 ≤ d ∧ d ≤ 16384 := by
  induction l generalizing s with
  | nil => simp
  | cons d r ih =>
    simp only [validFrom] at h
    split at h
    · simp at h
    · intro x hx
      rcases List.mem_cons.1 hx with rfl | hx
      · omega
      · exact ih h x hx
theorem validL_mem {l : List Int} (h : validL l = true) : ∀ d ∈ l, 1 ≤ d ∧ d ≤ 16384 := validFrom_mem (validL_from h)

theorem coords_step {l : List Int} {k : Nat} {d : Int} (hd : l.drop k = d :: l.drop (k + 1)) (i : Int) :
    (coordsFrom (l.drop k) i).1 = (coordsFrom (l.drop (k + 1)) i).1 / d ∧ (coordsFrom (l.drop k) i).2 = (coordsFrom (l.drop (k + 1)) i).1 % d :: (coordsFrom (l.drop (k + 1)) i).2 := by
  rw [hd]; exact ⟨rfl, rfl⟩
theorem coords_bd {l : List Int} {k : Nat} {i : Int} (hi : 0 ≤ i) (hl : ∀ d ∈ l, 1 ≤ d) : 0 ≤ (coordsFrom (l.drop k) i).1 ∧ (coordsFrom (l.drop k) i).1 ≤ i :=
  coordsFrom_nonneg _ _ hi (fun d hd => hl d (List.mem_of_mem_drop hd))
/-- The row of coordinates while its last places are filled. -/
def coordsRow (l : List Int) (i : Int) (k : Nat) : List Int := List.replicate k 0 ++ (coordsFrom (l.drop k) i).2
theorem coordsRow_start (l : List Int) (i : Int) : coordsRow l i l.length = List.replicate l.length 0 := by simp [coordsRow, coordsFrom]
theorem coordsRow_zero (l : List Int) (i : Int) : coordsRow l i 0 = (coordsFrom l i).2 := by simp [coordsRow]
theorem coordsRow_len (l : List Int) (i : Int) (k : Nat) (hk : k ≤ l.length) : (coordsRow l i k).length = l.length := by
  simp [coordsRow, coordsFrom_len]; omega
theorem coordsRow_step {l : List Int} {k : Nat} {d : Int} (hd : l.drop k = d :: l.drop (k + 1)) (i : Int) :
    (coordsRow l i (k + 1)).set k ((coordsFrom (l.drop (k + 1)) i).1 % d) = coordsRow l i k := by
  unfold coordsRow
  rw [(coords_step hd i).2, List.set_append_left _ _ (by simp), List.replicate_succ', List.set_append_right _ _ (by simp)]
  simp

theorem coords_wf {l : List Int} {i : Int} (hl : ∀ d ∈ l, 1 ≤ d ∧ d ≤ 16384) (_hi0 : 0 ≤ i) (_hi1 : i ≤ 16384) : ∀ x ∈ (coordsFrom l i).2, -9223372036854775808 ≤ x ∧ x ≤ 9223372036854775807 := by
  induction l with
  | nil => simp [coordsFrom]
  | cons d r ih =>
    have hd := hl d (by simp)
    intro x hx
    simp only [coordsFrom, List.mem_cons] at hx
    rcases hx with rfl | hx
    · have h1 := Int.emod_nonneg (coordsFrom r i).1 (show d ≠ 0 by omega)
      have h2 := Int.emod_lt_of_pos (coordsFrom r i).1 (show 0 < d by omega)
      omega
    · exact ih (fun y hy => hl y (by simp [hy])) x hx

theorem prodFrom_bd {l : List Int} {s : Int} (h1 : 1 ≤ s) (h2 : s ≤ 16384) (h : validFrom l s = true) : 1 ≤ prodFrom l s ∧ prodFrom l s ≤ 16384 := by
  induction l generalizing s with
  | nil => exact ⟨h1, h2⟩
  | cons d r ih =>
    obtain ⟨a1, a2, a3, a4, a5⟩ := validFrom_step (l := d :: r) (k := 0) rfl h1 h
    exact ih a4 a3 a5
theorem sizeL_bd (l : List Int) : 0 ≤ sizeL l ∧ sizeL l ≤ 16384 := by
  unfold sizeL
  split
  · rename_i h
    have := prodFrom_bd (by omega) (by omega) (validL_from h)
    simp at this
    omega
  · omega

end Go.Proofs.Ytcgpidicegbnoaa

/-
  Contracts of the functions that the statements reach, in the order in which they are built: LimbF.
-/
import Derived.Test.YthlmgejikbmmaaaM3
set_option linter.unusedVariables false
set_option linter.unusedSimpArgs false
set_option linter.constructorNameAsVariable false
set_option linter.deprecated false

/-
  Division bit by bit over limbs: plain facts. No Go in sight.
-/
namespace Go.Proofs.Ythlmgejikbmmaaa

theorem dig_lval {l : List Nat} (h : Lim l) (k : Nat) : dig l k = lval l / 4294967296 ^ k % 4294967296 := by
  induction l generalizing k with
  | nil => simp [dig, lval_nil]
  | cons d l ih =>
    obtain ⟨h1, h2⟩ := h.cons
    rw [lval_cons]
    cases k with
    | zero => simp [dig]; omega
    | succ k =>
      rw [dig_cons, ih h2, Nat.pow_succ, Nat.mul_comm (4294967296 ^ k), ← Nat.div_div_eq_div_mul]
      congr 2
      omega
/-- The limb k of a number. -/
def limbOf (Q k : Nat) : Nat := Q / 4294967296 ^ k % 4294967296
theorem limbOf_lt (Q k : Nat) : limbOf Q k < 4294967296 := Nat.mod_lt _ (by omega)
theorem limbOf_zero (k : Nat) : limbOf 0 k = 0 := by simp [limbOf]
theorem bpow_two (k : Nat) : 4294967296 ^ k = 2 ^ (32 * k) := by rw [Nat.pow_mul]
theorem limbOf_bit (Q k t : Nat) : (limbOf Q k).testBit t = (decide (t < 32) && Q.testBit (32 * k + t)) := by
  unfold limbOf
  rw [bpow_two, show (4294967296 : Nat) = 2 ^ 32 by rfl, Nat.testBit_mod_two_pow, Nat.testBit_div_two_pow, Nat.add_comm t]
theorem limbOf_or (Q i j : Nat) : limbOf (Q ||| 2 ^ i) j = if j = i / 32 then limbOf Q j ||| 2 ^ (i % 32) else limbOf Q j := by
  apply Nat.eq_of_testBit_eq
  intro t
  rw [limbOf_bit, Nat.testBit_or, Nat.testBit_two_pow]
  by_cases hj : j = i / 32
  · rw [if_pos hj, Nat.testBit_or, Nat.testBit_two_pow, limbOf_bit]
    by_cases ht : t < 32
    · have : (i = 32 * j + t) ↔ (i % 32 = t) := by omega
      simp [ht, this]
    · have : i % 32 ≠ t := by omega
      simp [ht, this]
  · rw [if_neg hj, limbOf_bit]
    by_cases ht : t < 32
    · have : i ≠ 32 * j + t := by omega
      simp [this]
    · simp [ht]
theorem valN_limbOf (Q n : Nat) (h : Q < 4294967296 ^ n) : valN (limbOf Q) n = Q := by
  have key : ∀ n, valN (limbOf Q) n = Q % 4294967296 ^ n := by
    intro n
    induction n with
    | zero => simp [valN, Nat.mod_one]
    | succ n ih =>
      simp only [valN]
      rw [ih, limbOf, Nat.pow_succ, Nat.mod_mul, Nat.mul_comm (Q / 4294967296 ^ n % 4294967296)]
  rw [key, Nat.mod_eq_of_lt h]

/-- One step of the division bit by bit: what is above bit i of A, divided by B. -/
theorem bits_step (A i : Nat) : A / 2 ^ i = 2 * (A / 2 ^ (i + 1)) + A / 2 ^ i % 2 := by
  rw [Nat.pow_succ, ← Nat.div_div_eq_div_mul]; omega
theorem divbit_ge {N B b : Nat} (hB : 0 < B) (hb : b < 2) (h : B ≤ 2 * (N % B) + b) : (2 * N + b) % B = 2 * (N % B) + b - B ∧ (2 * N + b) / B = 2 * (N / B) + 1 := by
  have hm := Nat.mod_lt N hB
  have e := Nat.div_add_mod N B
  generalize N % B = r at *
  generalize N / B = q at *
  subst e
  have e2 : 2 * (B * q + r) + b = B * (2 * q + 1) + (2 * r + b - B) := by
    rw [Nat.mul_add, Nat.mul_add, Nat.mul_left_comm]; omega
  rw [e2]
  constructor
  · rw [Nat.mul_add_mod, Nat.mod_eq_of_lt (by omega)]
  · rw [Nat.mul_add_div hB, Nat.div_eq_of_lt (by omega)]
theorem divbit_lt {N B b : Nat} (h : 2 * (N % B) + b < B) : (2 * N + b) % B = 2 * (N % B) + b ∧ (2 * N + b) / B = 2 * (N / B) := by
  have hB : 0 < B := by omega
  have hm := Nat.mod_lt N hB
  have e := Nat.div_add_mod N B
  generalize N % B = r at *
  generalize N / B = q at *
  subst e
  have e2 : 2 * (B * q + r) + b = B * (2 * q) + (2 * r + b) := by
    rw [Nat.mul_add, Nat.mul_left_comm]; omega
  rw [e2]
  constructor
  · rw [Nat.mul_add_mod, Nat.mod_eq_of_lt h]
  · rw [Nat.mul_add_div hB, Nat.div_eq_of_lt h]; omega
/-- The quotient so far, in its place. -/
def quoAt (A B i : Nat) : Nat := A / 2 ^ i / B * 2 ^ i
def remAt (A B i : Nat) : Nat := A / 2 ^ i % B
def bitAt (A i : Nat) : Nat := A / 2 ^ i % 2
theorem bitAt_lt (A i : Nat) : bitAt A i < 2 := Nat.mod_lt _ (by omega)
theorem step_ge {A B i : Nat} (hB : 0 < B) (h : B ≤ 2 * remAt A B (i + 1) + bitAt A i) : remAt A B i = 2 * remAt A B (i + 1) + bitAt A i - B ∧ quoAt A B i = quoAt A B (i + 1) ||| 2 ^ i := by
  obtain ⟨h1, h2⟩ := divbit_ge hB (bitAt_lt A i) h
  have e : 2 * (A / 2 ^ (i + 1)) + bitAt A i = A / 2 ^ i := (bits_step A i).symm
  rw [e] at h1 h2
  refine ⟨h1, ?_⟩
  unfold quoAt
  rw [h2, Nat.mul_comm (A / 2 ^ (i + 1) / B), ← Nat.two_pow_add_eq_or_of_lt (by rw [Nat.pow_succ]; have := Nat.two_pow_pos i; omega), Nat.pow_succ, Nat.add_mul, Nat.one_mul, Nat.mul_comm 2, Nat.mul_assoc, Nat.mul_comm (A / (2 ^ i * 2) / B), Nat.mul_comm (2 ^ i) 2]
theorem step_lt {A B i : Nat} (h : 2 * remAt A B (i + 1) + bitAt A i < B) : remAt A B i = 2 * remAt A B (i + 1) + bitAt A i ∧ quoAt A B i = quoAt A B (i + 1) := by
  obtain ⟨h1, h2⟩ := divbit_lt h
  have e : 2 * (A / 2 ^ (i + 1)) + bitAt A i = A / 2 ^ i := (bits_step A i).symm
  rw [e] at h1 h2
  refine ⟨h1, ?_⟩
  unfold quoAt
  rw [h2, Nat.pow_succ, Nat.mul_comm 2, Nat.mul_assoc, Nat.mul_comm 2]
theorem at_top {A B n : Nat} (h : A < 2 ^ n) : remAt A B n = 0 ∧ quoAt A B n = 0 := by
  unfold remAt quoAt; rw [Nat.div_eq_of_lt h]; simp
theorem at_end (A B : Nat) : remAt A B 0 = A % B ∧ quoAt A B 0 = A / B := by simp [remAt, quoAt]
theorem quoAt_le (A B i : Nat) : quoAt A B i ≤ A :=
  Nat.le_trans (Nat.mul_le_mul_right _ (Nat.div_le_self _ _)) (Nat.div_mul_le_self _ _)
theorem bitAt_dig {l : List Nat} (h : Lim l) (i : Nat) : bitAt (lval l) i = dig l (i / 32) / 2 ^ (i % 32) % 2 := by
  rw [dig_lval h]
  have h1 : ∀ x n : Nat, x / 2 ^ n % 2 = (x.testBit n).toNat := fun x n => by
    rw [Nat.testBit_eq_decide_div_mod_eq]; have := Nat.mod_lt (x / 2 ^ n) (show 0 < 2 by omega)
    by_cases h : x / 2 ^ n % 2 = 1 <;> simp [h]; omega
  unfold bitAt
  rw [h1, h1]
  have := limbOf_bit (lval l) (i / 32) (i % 32)
  unfold limbOf at this
  rw [this, decide_eq_true (Nat.mod_lt _ (by omega)), Bool.true_and, Nat.div_add_mod]

end Go.Proofs.Ythlmgejikbmmaaa

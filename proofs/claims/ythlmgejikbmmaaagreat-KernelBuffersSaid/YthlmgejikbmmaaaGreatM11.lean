/-
  Contracts of the functions that the statements reach, in the order in which they are built: KerK, KerL, KerM, KerN, ScaleQ.
-/
import Derived.Test.YthlmgejikbmmaaaGreatM9
import Derived.Laws.Externs
import Derived.Test.YthlmgejikbmmaaaGreatM8
set_option linter.unusedVariables false
set_option linter.unusedSimpArgs false
set_option linter.constructorNameAsVariable false
set_option linter.deprecated false

/-
  The walks of fixed.magnitude, valid, Scale, Saturate and of kernel.scale: by contract.
-/
namespace Go.Proofs.YthlmgejikbmmaaaGreat
open Go.RowKit

set_option maxHeartbeats 400000 in
theorem fMag (a : Int) (ha : I64 a) (w : World) : Calls Tryz.prog 65 #[.int .i64 a] w fun e w' => e = .returned (.int .u64 (a.natAbs : Int)) ∧ w = w' := by
  obtain ⟨h1, h2⟩ := ha
  by_cases h : a < 0
  · have E : Hid ((a.natAbs : Int) = -a) := by unfold Hid; omega
    go_enter Tryz.func65, Tryz.ntmps65
    go_wp2
    go_ret
    refine ⟨ret_int ?_, rfl⟩
    rw [E.out, IntKind.wrap_u64, IntKind.wrap_u64]
    omega
  · have E : Hid ((a.natAbs : Int) = a) := by unfold Hid; omega
    have h0 : 0 ≤ a := by omega
    clear h
    go_enter Tryz.func65, Tryz.ntmps65
    go_wp2
    go_ret
    refine ⟨ret_int ?_, rfl⟩
    rw [E.out]

set_option maxHeartbeats 400000 in
theorem fValid (s : Int) (w : World) : Calls Tryz.prog 63 #[.int .i64 s] w fun e w' => e = .returned (.bool (wthn s 0 62)) ∧ w = w' := by
  go_enter Tryz.func63, Tryz.ntmps63
  go_wp2
  all_goals
    go_ret
    refine ⟨ret_bool ?_, rfl⟩
    unfold wthn
    rw [Bool.eq_iff_iff]
    simp
    try omega

theorem Tryz.add64 (x y : Nat) (w : World) :
    (callFunc 66 #[.int .u64 (x : Int), .int .u64 (y : Int), .int .u64 0]).run Tryz.prog w = .ok (.value (.tuple #[.int .u64 (((x + y) % 18446744073709551616 : Nat) : Int), .int .u64 (((x + y) / 18446744073709551616 : Nat) : Int)])) w := by
  rw [run_callFunc_extern Tryz.func66 (by kernel_rfl) (by kernel_rfl) (by kernel_rfl) (e := add64Entry) (by kernel_rfl), run_add64 x y 0 (by omega) (by omega) (by omega) (by omega)]
  simp only [Result.andThen, Int.add_zero]
  congr 5 <;> omega

/-- The product, rounded. -/
def scaleQ (a m : Int) (s : Nat) : Nat := (a.natAbs * m.natAbs + (if s = 0 then 0 else 2 ^ (s - 1))) / 2 ^ s
theorem abs_mul_lt {a m : Int} (ha : I64 a) (hm : I64 m) : a.natAbs * m.natAbs ≤ 85070591730234615865843651857942052864 := by
  have h1 : a.natAbs ≤ 9223372036854775808 := by unfold I64 at ha; omega
  have h2 : m.natAbs ≤ 9223372036854775808 := by unfold I64 at hm; omega
  exact Nat.le_trans (Nat.mul_le_mul h1 h2) (by decide)

theorem wrap_nat {p : Nat} (h : p < 18446744073709551616) : IntKind.u64.wrap (p : Int) = (p : Int) := by rw [IntKind.wrap_u64]; omega
/-- What Scale hands back. -/
def scaleEnd (a m : Int) (s : Nat) : Ending := if scaleQ a m s ≤ 4611686018427387904 then .returned (.tuple #[.int .i64 (if (a < 0) = (m < 0) then (scaleQ a m s : Int) else -(scaleQ a m s : Int)), .int .i64 0]) else .returned (.tuple #[.int .i64 0, .int .i64 2])
theorem scaleEnd_pos {a m : Int} {s : Nat} (h : scaleQ a m s ≤ 4611686018427387904) (e : (a < 0) = (m < 0)) : scaleEnd a m s = .returned (.tuple #[.int .i64 (scaleQ a m s : Int), .int .i64 0]) := by unfold scaleEnd; rw [if_pos h, if_pos e]
theorem scaleEnd_neg {a m : Int} {s : Nat} (h : scaleQ a m s ≤ 4611686018427387904) (e : ¬ (a < 0) = (m < 0)) : scaleEnd a m s = .returned (.tuple #[.int .i64 (-(scaleQ a m s : Int)), .int .i64 0]) := by unfold scaleEnd; rw [if_pos h, if_neg e]
theorem scaleEnd_big {a m : Int} {s : Nat} (h : ¬ scaleQ a m s ≤ 4611686018427387904) : scaleEnd a m s = .returned (.tuple #[.int .i64 0, .int .i64 2]) := by unfold scaleEnd; rw [if_neg h]
theorem carry_le {lo pw : Nat} (h1 : lo < 18446744073709551616) (h2 : pw < 18446744073709551616) : (lo + pw) / 18446744073709551616 ≤ 1 := by omega
theorem carry_sum {P hi lo pw : Nat} (h1 : P / 18446744073709551616 = hi) (h2 : P % 18446744073709551616 = lo) : P + pw = (hi + (lo + pw) / 18446744073709551616) * 18446744073709551616 + (lo + pw) % 18446744073709551616 := by omega
theorem scale_hi {T hi c l1 s : Nat} (hT : T = (hi + c) * 18446744073709551616 + l1) (hl : l1 < 18446744073709551616) : (((hi : Int) + (c : Int)) / 2 ^ s) = ((T / 2 ^ s / 18446744073709551616 : Nat) : Int) := by
  have e : T / 2 ^ s / 18446744073709551616 = (hi + c) / 2 ^ s := by
    rw [Nat.div_div_eq_div_mul, Nat.mul_comm, ← Nat.div_div_eq_div_mul, hT, Nat.mul_comm (hi + c), Nat.mul_add_div (by omega), Nat.div_eq_of_lt hl, Nat.add_zero]
  rw [e]; simp
theorem scale_lo {T hi c l1 s : Nat} (hs0 : 1 ≤ s) (hs : s ≤ 62) (hT : T = (hi + c) * 18446744073709551616 + l1) (hl : l1 < 18446744073709551616) (hh : hi + c < 18446744073709551616) :
    bits .or .u64 (IntKind.u64.wrap (((hi : Int) + (c : Int)) * 2 ^ (64 - s))) ((l1 : Int) / 2 ^ s) = ((T / 2 ^ s % 18446744073709551616 : Nat) : Int) := by
  have hp : 2 ^ (64 - s) * 2 ^ s = 18446744073709551616 := by rw [← Nat.pow_add, show 64 - s + s = 64 by omega]
  have hps := Nat.two_pow_pos s
  have hr : l1 / 2 ^ s < 2 ^ (64 - s) := by rw [Nat.div_lt_iff_lt_mul hps, hp]; exact hl
  have hTd : T / 2 ^ s = (hi + c) * 2 ^ (64 - s) + l1 / 2 ^ s := by
    rw [hT, ← hp, ← Nat.mul_assoc, Nat.mul_comm _ (2 ^ s), Nat.mul_add_div hps]
  have e1 : IntKind.u64.wrap (((hi : Int) + (c : Int)) * 2 ^ (64 - s)) = (((hi + c) * 2 ^ (64 - s) % 18446744073709551616 : Nat) : Int) := by
    rw [IntKind.wrap_u64, show (((hi : Int) + (c : Int)) * 2 ^ (64 - s)) = (((hi + c) * 2 ^ (64 - s) : Nat) : Int) by simp]
    generalize (hi + c) * 2 ^ (64 - s) = X
    omega
  have e2 : ((l1 : Int) / 2 ^ s) = ((l1 / 2 ^ s : Nat) : Int) := by simp
  rw [e1, e2, hTd]
  have hdiv : (hi + c) * 2 ^ (64 - s) % 18446744073709551616 % 2 ^ (64 - s) = 0 := by
    rw [← hp, Nat.mod_mul_right_mod, Nat.mul_mod_left]
  have hlt : (hi + c) * 2 ^ (64 - s) % 18446744073709551616 < 18446744073709551616 := Nat.mod_lt _ (by omega)
  have hr2 : l1 / 2 ^ s < 18446744073709551616 := Nat.lt_of_le_of_lt (Nat.div_le_self _ _) hl
  rw [bits_or_u64_nat _ _ hlt hr2, or_add (k := 64 - s) hr hdiv]
  -- the sum stays below 2^64
  have hsum : (hi + c) * 2 ^ (64 - s) % 18446744073709551616 + l1 / 2 ^ s < 18446744073709551616 := by
    have hX : (hi + c) * 2 ^ (64 - s) % 18446744073709551616 = ((hi + c) % 2 ^ s) * 2 ^ (64 - s) := by
      rw [← hp, Nat.mul_comm (2 ^ (64 - s)), Nat.mul_mod_mul_right]
    rw [hX]
    have h1 : (hi + c) % 2 ^ s < 2 ^ s := Nat.mod_lt _ hps
    have h2 : ((hi + c) % 2 ^ s + 1) * 2 ^ (64 - s) ≤ 2 ^ s * 2 ^ (64 - s) := Nat.mul_le_mul_right _ h1
    rw [Nat.add_mul, Nat.one_mul, Nat.mul_comm (2 ^ s), hp] at h2
    omega
  congr 1
  generalize (hi + c) * 2 ^ (64 - s) = X at *
  generalize l1 / 2 ^ s = r at *
  omega

set_option maxRecDepth 100000 in
set_option maxHeartbeats 1600000 in
theorem fScale_some (a m : Int) (ha : I64 a) (hm : I64 m) (s : Nat) (hs0 : 1 ≤ s) (hs : s ≤ 62) (w : World) :
    Calls Tryz.prog 44 #[.int .i64 a, .int .i64 m, .int .i64 (s : Int)] w fun e w' => e = scaleEnd a m s ∧ ∃ n, w' = w.drewN n := by
  have HMa := Lib.hid (fun wv => fMag a ha wv)
  have HMm := Lib.hid (fun wv => fMag m hm wv)
  have HVl := Lib.hid (fun wv => fValid (s : Int) wv)
  rw [show wthn (s : Int) 0 62 = true from wthn_iff.2 ⟨by omega, by omega⟩] at HVl
  have hP := abs_mul_lt ha hm
  have hA : a.natAbs < 18446744073709551616 := by unfold I64 at ha; omega
  have hM : m.natAbs < 18446744073709551616 := by unfold I64 at hm; omega
  have HMul := Lib.hid (fun wv => Tryz.bits_Mul64 a.natAbs m.natAbs hA hM wv)
  have hQ : scaleQ a m s = (a.natAbs * m.natAbs + 2 ^ (s - 1)) / 2 ^ s := by unfold scaleQ; rw [if_neg (by omega)]
  have HQ := Lib.hid hQ
  clear hQ ha hm hA hM
  generalize a.natAbs = A at *
  generalize m.natAbs = M at *
  generalize A * M = P at *
  have hpw : 2 ^ (s - 1) < 18446744073709551616 := Nat.lt_of_lt_of_le (Nat.pow_lt_pow_right (by omega) (by omega : s - 1 < 64)) (by decide)
  have hpw2 : IntKind.u64.wrap ((2 : Int) ^ (s - 1)) = ((2 ^ (s - 1) : Nat) : Int) := by
    rw [show ((2 : Int) ^ (s - 1)) = ((2 ^ (s - 1) : Nat) : Int) by simp]; exact wrap_nat hpw
  have HPw2 := Lib.hid hpw2
  have HPw := Lib.hid hpw
  clear hpw hpw2
  go_enter Tryz.func44, Tryz.ntmps44
  go_wp2_with fail
  refine (HVl.out _).mono ?_
  rintro e w1 ⟨rfl, rfl⟩
  go_wp2_with fail
  refine (HMa.out _).mono ?_
  rintro e w1 ⟨rfl, rfl⟩
  go_wp2_with fail
  refine (HMm.out _).mono ?_
  rintro e w1 ⟨rfl, rfl⟩
  go_wp2_with fail
  refine (HMul.out _).mono ?_
  rintro e w1 ⟨rfl, rfl⟩
  generalize hhi : P / 18446744073709551616 = hi at *
  generalize hlo : P % 18446744073709551616 = lo at *
  have hhi2 : hi ≤ 4611686018427387904 := by omega
  have hlo2 : lo < 18446744073709551616 := by omega
  have HHi := Lib.hid hhi
  have HLo := Lib.hid hlo
  have hadd : ∀ wv, (callFunc 66 #[.int .u64 (lo : Int), .int .u64 (IntKind.u64.wrap ((2 : Int) ^ (s - 1))), .int .u64 0]).run Tryz.prog wv = .ok (.value (.tuple #[.int .u64 (((lo + 2 ^ (s - 1)) % 18446744073709551616 : Nat) : Int), .int .u64 (((lo + 2 ^ (s - 1)) / 18446744073709551616 : Nat) : Int)])) wv := by
    intro wv
    rw [HPw2.out]; exact Tryz.add64 _ _ wv
  have hT : Hid (P + 2 ^ (s - 1) = (hi + (lo + 2 ^ (s - 1)) / 18446744073709551616) * 18446744073709551616 + (lo + 2 ^ (s - 1)) % 18446744073709551616) := carry_sum hhi hlo
  have hc1 : (lo + 2 ^ (s - 1)) / 18446744073709551616 ≤ 1 := carry_le hlo2 HPw.out
  have hl1 : (lo + 2 ^ (s - 1)) % 18446744073709551616 < 18446744073709551616 := Nat.mod_lt _ (by omega)
  generalize (lo + 2 ^ (s - 1)) / 18446744073709551616 = c at *
  generalize (lo + 2 ^ (s - 1)) % 18446744073709551616 = l1 at *
  clear hhi hlo HMa HMm HMul HVl hP
  have E1 := scale_hi (s := s) hT.out hl1
  have E2 := scale_lo (s := s) hs0 hs hT.out hl1 (by omega)
  rw [← HQ.out] at E1 E2
  have HE1 := Lib.hid E1
  have HE2 := Lib.hid E2
  clear E1 E2
  go_wp2
  go_quiet (fail)
  rw [HE1.out, HE2.out]
  clear HE1 HE2
  have hdw := Below.drewN_refl w1 nq
  by_cases hle : scaleQ a m s ≤ 4611686018427387904
  · have g1 : scaleQ a m s / 18446744073709551616 = 0 := Nat.div_eq_of_lt (by omega)
    have g2 : scaleQ a m s % 18446744073709551616 = scaleQ a m s := Nat.mod_eq_of_lt (by omega)
    rw [g1, g2]
    have HP1 := Lib.hid (scaleEnd_pos hle)
    have HP2 := Lib.hid (scaleEnd_neg hle)
    clear g1 g2
    generalize scaleQ a m s = Q at *
    by_cases h1 : a < 0
    · by_cases h2 : m < 0
      · have e : ((a < 0) = (m < 0)) := by simp [h1, h2]
        have HE := Lib.hid e
        clear e
        go_wp2
        go_ret2
        exact ⟨(HP1.out HE.out).symm, nq, rfl⟩
      · have e : ¬ ((a < 0) = (m < 0)) := by simp [h1, h2]
        have HE := Lib.hid e
        clear e
        go_wp2
        go_ret2
        exact ⟨(HP2.out HE.out).symm, nq, rfl⟩
    · by_cases h2 : m < 0
      · have e : ¬ ((a < 0) = (m < 0)) := by simp [h1, h2]
        have HE := Lib.hid e
        clear e
        go_wp2
        go_ret2
        exact ⟨(HP2.out HE.out).symm, nq, rfl⟩
      · have e : ((a < 0) = (m < 0)) := by simp [h1, h2]
        have HE := Lib.hid e
        clear e
        go_wp2
        go_ret2
        exact ⟨(HP1.out HE.out).symm, nq, rfl⟩
  · have HLE := Lib.hid (scaleEnd_big hle)
    generalize hq1 : scaleQ a m s / 18446744073709551616 = q1 at *
    generalize hq2 : scaleQ a m s % 18446744073709551616 = q2 at *
    by_cases hz : q1 = 0
    · have hb : 4611686018427387904 < q2 := by omega
      subst hz
      clear hq1 hq2 hle
      go_wp2
      go_ret2
      exact ⟨HLE.out.symm, nq, rfl⟩
    · have hb : 0 < q1 := by omega
      clear hq1 hq2 hle hz
      go_wp2
      go_ret2
      exact ⟨HLE.out.symm, nq, rfl⟩

set_option maxRecDepth 100000 in
set_option maxHeartbeats 1600000 in
theorem fScale_zero (a m : Int) (ha : I64 a) (hm : I64 m) (w : World) :
    Calls Tryz.prog 44 #[.int .i64 a, .int .i64 m, .int .i64 0] w fun e w' => e = scaleEnd a m 0 ∧ ∃ n, w' = w.drewN n := by
  have HMa := Lib.hid (fun wv => fMag a ha wv)
  have HMm := Lib.hid (fun wv => fMag m hm wv)
  have HVl := Lib.hid (fun wv => fValid 0 wv)
  rw [show wthn (0 : Int) 0 62 = true from wthn_iff.2 ⟨by omega, by omega⟩] at HVl
  have hP := abs_mul_lt ha hm
  have hA : a.natAbs < 18446744073709551616 := by unfold I64 at ha; omega
  have hM : m.natAbs < 18446744073709551616 := by unfold I64 at hm; omega
  have HMul := Lib.hid (fun wv => Tryz.bits_Mul64 a.natAbs m.natAbs hA hM wv)
  have hQ : scaleQ a m 0 = a.natAbs * m.natAbs := by unfold scaleQ; simp
  have HLp := Lib.hid (@scaleEnd_pos a m 0)
  have HLn := Lib.hid (@scaleEnd_neg a m 0)
  have HLb := Lib.hid (@scaleEnd_big a m 0)
  rw [hQ] at HLp HLn HLb
  clear hQ ha hm hA hM
  generalize a.natAbs = A at *
  generalize m.natAbs = M at *
  generalize A * M = P at *
  go_enter Tryz.func44, Tryz.ntmps44
  go_wp2_with fail
  refine (HVl.out _).mono ?_
  rintro e w1 ⟨rfl, rfl⟩
  go_wp2_with fail
  refine (HMa.out _).mono ?_
  rintro e w1 ⟨rfl, rfl⟩
  go_wp2_with fail
  refine (HMm.out _).mono ?_
  rintro e w1 ⟨rfl, rfl⟩
  go_wp2_with fail
  refine (HMul.out _).mono ?_
  rintro e w1 ⟨rfl, rfl⟩
  by_cases hle : P ≤ 4611686018427387904
  · have g1 : P / 18446744073709551616 = 0 := Nat.div_eq_of_lt (by omega)
    have g2 : P % 18446744073709551616 = P := Nat.mod_eq_of_lt (by omega)
    have HP1 := Lib.hid (HLp.out hle)
    have HP2 := Lib.hid (HLn.out hle)
    rw [g1, g2]
    clear g1 g2 hP HMa HMm HMul HVl HLp HLn HLb
    by_cases h1 : a < 0
    · have b1 := decide_eq_true h1
      by_cases h2 : m < 0
      · have b2 := decide_eq_true h2
        have HE : Hid ((a < 0) = (m < 0)) := by unfold Hid; simp [h1, h2]
        go_wp2
        go_ret2
        exact ⟨(HP1.out HE.out).symm, 0, rfl⟩
      · have b2 := decide_eq_false h2
        have HE : Hid (¬ ((a < 0) = (m < 0))) := by unfold Hid; simp [h1, h2]
        go_wp2
        go_ret2
        exact ⟨(HP2.out HE.out).symm, 0, rfl⟩
    · have b1 := decide_eq_false h1
      by_cases h2 : m < 0
      · have b2 := decide_eq_true h2
        have HE : Hid (¬ ((a < 0) = (m < 0))) := by unfold Hid; simp [h1, h2]
        go_wp2
        go_ret2
        exact ⟨(HP2.out HE.out).symm, 0, rfl⟩
      · have b2 := decide_eq_false h2
        have HE : Hid ((a < 0) = (m < 0)) := by unfold Hid; simp [h1, h2]
        go_wp2
        go_ret2
        exact ⟨(HP1.out HE.out).symm, 0, rfl⟩
  · have HB := Lib.hid (HLb.out hle)
    generalize hq1 : P / 18446744073709551616 = q1 at *
    generalize hq2 : P % 18446744073709551616 = q2 at *
    by_cases hz : q1 = 0
    · have hb : 4611686018427387904 < q2 := by omega
      subst hz
      clear hq1 hq2 hle hP HMa HMm HMul HVl HLp HLn HLb
      go_wp2
      go_ret2
      exact ⟨HB.out.symm, 0, rfl⟩
    · have hb : 0 < q1 := by omega
      clear hq1 hq2 hle hz hP HMa HMm HMul HVl HLp HLn HLb
      go_wp2
      go_ret2
      exact ⟨HB.out.symm, 0, rfl⟩

theorem fScale (a m : Int) (ha : I64 a) (hm : I64 m) (s : Nat) (hs : s ≤ 62) (w : World) :
    Calls Tryz.prog 44 #[.int .i64 a, .int .i64 m, .int .i64 (s : Int)] w fun e w' => e = scaleEnd a m s ∧ ∃ n, w' = w.drewN n := by
  by_cases h : s = 0
  · subst h; exact fScale_zero a m ha hm w
  · exact fScale_some a m ha hm s (by omega) hs w

def clamp32 (x : Int) : Int := max (-2147483648) (min 2147483647 x)
set_option maxHeartbeats 400000 in
theorem fSaturate (a : Int) (w : World) : Calls Tryz.prog 45 #[.int .i64 a, .int .i64 32] w fun e w' => e = .returned (.int .i64 (clamp32 a)) ∧ w = w' := by
  go_enter Tryz.func45, Tryz.ntmps45
  go_wp2
  go_ret
  exact ⟨rfl, rfl⟩

/-- What a kernel's OpScale makes of a number. -/
def scaleL (a m : Int) (s : Nat) : Int := clamp32 (if (a < 0) = (m < 0) then (scaleQ a m s : Int) else -(scaleQ a m s : Int))

set_option maxHeartbeats 800000 in
theorem kScale (a m : Int) (ha : I64 a) (hm : I64 m) (s : Nat) (hs : s ≤ 62) (w : World) :
    Calls Tryz.prog 30 #[.int .i64 a, .int .i64 m, .int .i64 (s : Int)] w fun e w' => e = .returned (.int .i64 (scaleL a m s)) ∧ ∃ n, w' = w.drewN n := by
  have HF := Lib.hid (fScale a m ha hm s hs w)
  have HS := Lib.hid fSaturate
  by_cases hle : scaleQ a m s ≤ 4611686018427387904
  · by_cases he : (a < 0) = (m < 0)
    · have hL : scaleL a m s = clamp32 (scaleQ a m s : Int) := by unfold scaleL; rw [if_pos he]
      have HL := Lib.hid hL
      rw [scaleEnd_pos hle he] at HF
      clear hle he hL
      go_enter Tryz.func30, Tryz.ntmps30
      go_wp2_with fail
      refine HF.out.mono ?_
      rintro e w1 ⟨rfl, n, rfl⟩
      go_wp2_with fail
      refine (HS.out _ _).mono ?_
      rintro e w1 ⟨rfl, rfl⟩
      go_wp2
      go_ret
      exact ⟨ret_int HL.out.symm, n, rfl⟩
    · have hL : scaleL a m s = clamp32 (-(scaleQ a m s : Int)) := by unfold scaleL; rw [if_neg he]
      have HL := Lib.hid hL
      rw [scaleEnd_neg hle he] at HF
      clear hle he hL
      go_enter Tryz.func30, Tryz.ntmps30
      go_wp2_with fail
      refine HF.out.mono ?_
      rintro e w1 ⟨rfl, n, rfl⟩
      go_wp2_with fail
      refine (HS.out _ _).mono ?_
      rintro e w1 ⟨rfl, rfl⟩
      go_wp2
      go_ret
      exact ⟨ret_int HL.out.symm, n, rfl⟩
  · rw [scaleEnd_big hle] at HF
    have c1 : clamp32 (scaleQ a m s : Int) = clamp32 4611686018427387904 := by unfold clamp32; omega
    have c2 : clamp32 (-(scaleQ a m s : Int)) = clamp32 (-4611686018427387904) := by unfold clamp32; omega
    by_cases h1 : a < 0
    · have b1 := decide_eq_true h1
      by_cases h2 : m < 0
      · have b2 := decide_eq_true h2
        have HL : Hid (scaleL a m s = clamp32 4611686018427387904) := by unfold Hid scaleL; rw [if_pos (by simp [h1, h2]), c1]
        clear hle c1 c2
        go_enter Tryz.func30, Tryz.ntmps30
        go_wp2_with fail
        refine HF.out.mono ?_
        rintro e w1 ⟨rfl, n, rfl⟩
        go_wp2_with fail
        refine (HS.out _ _).mono ?_
        rintro e w1 ⟨rfl, rfl⟩
        go_wp2
        go_ret
        exact ⟨ret_int HL.out.symm, n, rfl⟩
      · have b2 := decide_eq_false h2
        have HL : Hid (scaleL a m s = clamp32 (-4611686018427387904)) := by unfold Hid scaleL; rw [if_neg (by simp [h1, h2]), c2]
        clear hle c1 c2
        go_enter Tryz.func30, Tryz.ntmps30
        go_wp2_with fail
        refine HF.out.mono ?_
        rintro e w1 ⟨rfl, n, rfl⟩
        go_wp2_with fail
        refine (HS.out _ _).mono ?_
        rintro e w1 ⟨rfl, rfl⟩
        go_wp2
        go_ret
        exact ⟨ret_int HL.out.symm, n, rfl⟩
    · have b1 := decide_eq_false h1
      by_cases h2 : m < 0
      · have b2 := decide_eq_true h2
        have HL : Hid (scaleL a m s = clamp32 (-4611686018427387904)) := by unfold Hid scaleL; rw [if_neg (by simp [h1, h2]), c2]
        clear hle c1 c2
        go_enter Tryz.func30, Tryz.ntmps30
        go_wp2_with fail
        refine HF.out.mono ?_
        rintro e w1 ⟨rfl, n, rfl⟩
        go_wp2_with fail
        refine (HS.out _ _).mono ?_
        rintro e w1 ⟨rfl, rfl⟩
        go_wp2
        go_ret
        exact ⟨ret_int HL.out.symm, n, rfl⟩
      · have b2 := decide_eq_false h2
        have HL : Hid (scaleL a m s = clamp32 4611686018427387904) := by unfold Hid scaleL; rw [if_pos (by simp [h1, h2]), c1]
        clear hle c1 c2
        go_enter Tryz.func30, Tryz.ntmps30
        go_wp2_with fail
        refine HF.out.mono ?_
        rintro e w1 ⟨rfl, n, rfl⟩
        go_wp2_with fail
        refine (HS.out _ _).mono ?_
        rintro e w1 ⟨rfl, rfl⟩
        go_wp2
        go_ret
        exact ⟨ret_int HL.out.symm, n, rfl⟩

end Go.Proofs.YthlmgejikbmmaaaGreat

/-
  Blocks of integers; the machine that executes a kernel, in memory. No function in sight.
-/
namespace Go.Proofs.YthlmgejikbmmaaaGreat
open Go.RowKit

/-- A block of integers, known whole. -/
def rowI (l : List Int) : Array Value := (l.map (Value.int .i64)).toArray
def IBlk (w : World) (g : Nat) (l : List Int) : Prop := ∃ T, w.heap[g]? = some (.cells (rowI l) T (0, 0))
theorem IBlk.lt {w : World} {g : Nat} {l : List Int} (h : IBlk w g l) : g < w.heap.size := let ⟨_, h1⟩ := h; (Array.getElem?_eq_some_iff.1 h1).1
theorem IBlk.cell {w : World} {g : Nat} {l : List Int} (h : IBlk w g l) {x : Nat} (hx : x < l.length) : w.cell? ⟨g, x, none⟩ = some (.int .i64 (l.getD x 0)) := by
  obtain ⟨T, h⟩ := h
  simp [World.cell?, h, rowI, List.getD_eq_getElem?_getD, hx]
theorem IBlk.free {w : World} {g : Nat} {l : List Int} (h : IBlk w g l) (x : Nat) : w.frozen? ⟨g, x, none⟩ = false := by
  obtain ⟨T, h⟩ := h
  simp [World.frozen?, h]
theorem IBlk.set {w : World} {g : Nat} {l : List Int} (h : IBlk w g l) (x : Nat) (v : Int) : IBlk (w.setCell ⟨g, x, none⟩ (.int .i64 v)) g (l.set x v) := by
  obtain ⟨T, h⟩ := h
  refine ⟨T, ?_⟩
  have e : rowI (l.set x v) = (rowI l).setIfInBounds x (.int .i64 v) := by
    unfold rowI
    rw [List.setIfInBounds_toArray, List.map_set]
  rw [e]
  simp [World.setCell, Array.getElem?_modify, h]
theorem IBlk.below {w w' : World} {g : Nat} {l : List Int} (h : IBlk w g l) (hb : Below w.heap.size w w') : IBlk w' g l := by
  have hlt := h.lt
  obtain ⟨T, h⟩ := h
  exact ⟨T, (hb.block g hlt).trans h⟩
theorem IBlk.only {g g' : Nat} {w w' : World} {l : List Int} (h : IBlk w g' l) (ho : Only g w w') (hne : g' ≠ g) : IBlk w' g' l := by
  obtain ⟨T, h⟩ := h
  exact ⟨T, (ho.block g' hne).trans h⟩
theorem IBlk.ints {w : World} {g : Nat} {l : List Int} {F : Nat → Prop} (h : IBlk w g l) (hF : F g) (hw : ∀ x ∈ l, I64 x) (hl : l.length ≤ 9223372036854775807) : Ints w F (some ⟨g, 0, none⟩) l := by
  refine ⟨hw, hl, .inr ⟨g, 0, rfl, hF, h.lt, fun j d hj => ?_⟩⟩
  have hlt := (List.getElem?_eq_some_iff.1 hj).1
  have := h.cell hlt
  rw [List.getD_eq_getElem?_getD, hj] at this
  rw [Nat.zero_add]; exact this

theorem nodup_inj {l : List Nat} (h : l.Nodup) {i j a : Nat} (hi : l[i]? = some a) (hj : l[j]? = some a) : i = j := by
  obtain ⟨l1, e1⟩ := List.getElem?_eq_some_iff.1 hi
  obtain ⟨l2, e2⟩ := List.getElem?_eq_some_iff.1 hj
  rcases Nat.lt_trichotomy i j with hlt | rfl | hgt
  · exact absurd (e1.trans e2.symm) (List.pairwise_iff_getElem.1 h i j l1 l2 hlt)
  · rfl
  · exact absurd (e2.trans e1.symm) (List.pairwise_iff_getElem.1 h j i l2 l1 hgt)

/-- The machine: its buffers, each in a block of its own. -/
structure Mach (w : World) (M B cap : Nat) (gs : List Nat) (vs : List (List Int)) (h wd : Int) : Prop where
  m0 : w.cell? ⟨M, 0, none⟩ = some (.slice (some ⟨B, 0, none⟩) gs.length cap)
  m1 : w.cell? ⟨M, 1, none⟩ = some (.int .i64 h)
  m2 : w.cell? ⟨M, 2, none⟩ = some (.int .i64 wd)
  mlt : M < w.heap.size
  blt : B < w.heap.size
  len : gs.length = vs.length
  cap : gs.length ≤ cap
  row : ∀ (j g : Nat) (v : List Int), gs[j]? = some g → vs[j]? = some v → w.cell? ⟨B, j, none⟩ = some (.slice (some ⟨g, 0, none⟩) v.length v.length) ∧ IBlk w g v
  nodup : gs.Nodup
  nM : M ∉ gs
  nB : B ∉ gs

theorem Mach.below {w w' : World} {M B cap : Nat} {gs : List Nat} {vs : List (List Int)} {h wd : Int} (m : Mach w M B cap gs vs h wd) (hb : Below w.heap.size w w') : Mach w' M B cap gs vs h wd :=
  ⟨(hb.cell m.mlt).trans m.m0, (hb.cell m.mlt).trans m.m1, (hb.cell m.mlt).trans m.m2, Nat.lt_of_lt_of_le m.mlt hb.size, Nat.lt_of_lt_of_le m.blt hb.size, m.len, m.cap,
    fun j g v h1 h2 => let ⟨r1, r2⟩ := m.row j g v h1 h2; ⟨(hb.cell m.blt).trans r1, r2.below hb⟩, m.nodup, m.nM, m.nB⟩
/-- Block gd alone has turned, and reads as the new row. -/
theorem Mach.turn {w w' : World} {M B cap : Nat} {gs : List Nat} {vs : List (List Int)} {h wd : Int} (m : Mach w M B cap gs vs h wd) {d gd : Nat} {v0 v : List Int} (hd : gs[d]? = some gd) (hv0 : vs[d]? = some v0) (hlen : v.length = v0.length) (ho : Only gd w w') (hv : IBlk w' gd v) :
    Mach w' M B cap gs (vs.set d v) h wd := by
  have hgd : gd ∈ gs := List.mem_of_getElem? hd
  have nm : M ≠ gd := fun e => m.nM (e ▸ hgd)
  have nb : B ≠ gd := fun e => m.nB (e ▸ hgd)
  refine ⟨(ho.cell nm).trans m.m0, (ho.cell nm).trans m.m1, (ho.cell nm).trans m.m2, by rw [ho.size]; exact m.mlt, by rw [ho.size]; exact m.blt, by simp [m.len], m.cap, fun j g u h1 h2 => ?_, m.nodup, m.nM, m.nB⟩
  by_cases hj : d = j
  · subst hj
    rw [hd] at h1
    cases h1
    have hlt : d < vs.length := (List.getElem?_eq_some_iff.1 hv0).1
    rw [List.getElem?_set_self hlt] at h2
    cases h2
    rw [hlen]
    exact ⟨(ho.cell nb).trans (m.row d gd v0 hd hv0).1, hv⟩
  · rw [List.getElem?_set_ne hj] at h2
    obtain ⟨r1, r2⟩ := m.row j g u h1 h2
    have hne : g ≠ gd := by
      rintro rfl
      exact hj (nodup_inj m.nodup hd h1)
    exact ⟨(ho.cell nb).trans r1, r2.only ho hne⟩
theorem Mach.ne {w : World} {M B cap : Nat} {gs : List Nat} {vs : List (List Int)} {h wd : Int} (m : Mach w M B cap gs vs h wd) {d s gd gs' : Nat} (hd : gs[d]? = some gd) (hs : gs[s]? = some gs') (hne : d ≠ s) : gs' ≠ gd := by
  rintro rfl
  exact hne (nodup_inj m.nodup hd hs)

/-- Lists that are laid cell by cell. -/
theorem set_take_drop {α : Type} {f : List α} {D : List α} {k : Nat} {v : α} (hk : k < D.length) (hf : f.length = k) : (f ++ D.drop k).set k v = (f ++ [v]) ++ D.drop (k + 1) := by
  subst hf
  rw [List.set_append_right _ _ (Nat.le_refl _), Nat.sub_self, List.drop_eq_getElem_cons hk, List.set_cons_zero, List.append_assoc]
  rfl
theorem getD_laid {f D : List Int} {k : Nat} (hf : f.length = k) : (f ++ D.drop k).getD k 0 = D.getD k 0 := by
  subst hf
  simp [List.getD_eq_getElem?_getD, List.getElem?_append_right, List.getElem?_drop]

end Go.Proofs.YthlmgejikbmmaaaGreat

/-
  The walk of the machine's do, kind by kind: by contract.
-/
namespace Go.Proofs.YthlmgejikbmmaaaGreat
open Go.RowKit

/-- What do leaves: new blocks, and block gd with a new row. -/
def DoRet (w : World) (gd : Nat) (v : List Int) (w' : World) : Prop := ∃ wc, Below w.heap.size w wc ∧ Only gd wc w' ∧ IBlk w' gd v
/-- Behind the first statement: the two variables. -/
def DoCut (W : World) (d s : Value) (s4 s5 : Value) (wx : World) : Prop := ∃ g4 g5 : Nat, s4 = .pointer (some ⟨g4, 0, none⟩) ∧ s5 = .pointer (some ⟨g5, 0, none⟩) ∧ wx.cell? ⟨g4, 0, none⟩ = some d ∧ wx.cell? ⟨g5, 0, none⟩ = some s ∧ Below W.heap.size W wx ∧ W.heap.size ≤ g4 ∧ W.heap.size ≤ g5 ∧ g4 < wx.heap.size ∧ g5 < wx.heap.size

theorem DoCut.mk1 (W : World) (d s : Value) (T : Nat) : DoCut W d s (.pointer (some ⟨W.heap.size, 0, none⟩)) (.pointer (some ⟨W.heap.size + 1, 0, none⟩)) ((W.alloc (.cells #[d] T)).alloc (.cells #[s] T)).drew := by
  refine ⟨W.heap.size, W.heap.size + 1, rfl, rfl, ?_, ?_, (((Below.refl _ _).alloc (Nat.le_refl _) _).alloc (by simp) _).drew, Nat.le_refl _, by omega, by simp [World.drew]; omega, by simp [World.drew]⟩
  · exact (((Below.refl (W.alloc (.cells #[d] T)).heap.size _).alloc (Nat.le_refl _) (.cells #[s] T)).drew.cell (p := ⟨W.heap.size, 0, none⟩) (by simp)).trans (by rw [World.cell?_alloc_at _ _ _ _ rfl]; rfl)
  · have : ((W.alloc (.cells #[d] T)).alloc (.cells #[s] T)).cell? ⟨W.heap.size + 1, 0, none⟩ = some s := by rw [World.cell?_alloc_at _ _ _ _ (by simp)]; rfl
    exact this
theorem DoCut.mk2 (W : World) (d s : Value) (T : Nat) : DoCut W d s (.pointer (some ⟨W.heap.size + 1, 0, none⟩)) (.pointer (some ⟨W.heap.size, 0, none⟩)) ((W.alloc (.cells #[s] T)).alloc (.cells #[d] T)).drew := by
  obtain ⟨g4, g5, e1, e2, h⟩ := DoCut.mk1 W s d T
  exact ⟨g5, g4, by rw [e2], by rw [e1], h.2.1, h.1, h.2.2.1, h.2.2.2.2.1, h.2.2.2.1, h.2.2.2.2.2.2, h.2.2.2.2.2.1⟩
theorem S5_alloc {W : World} {M g B i1 i2 i3 i4 : Nat} {p q r s t : Value} {o : Obj} (hM : M < W.heap.size) (hg : g < W.heap.size) (hB : B < W.heap.size) (h0 : W.cell? ⟨M, 0, none⟩ = some p) (h1 : W.cell? ⟨g, i1, none⟩ = some q) (h2 : W.cell? ⟨g, i2, none⟩ = some r) (h3 : W.cell? ⟨B, i3, none⟩ = some s) (h4 : W.cell? ⟨B, i4, none⟩ = some t) :
    (W.alloc o).drew.cell? ⟨M, 0, none⟩ = some p ∧ (W.alloc o).drew.cell? ⟨g, i1, none⟩ = some q ∧ (W.alloc o).drew.cell? ⟨g, i2, none⟩ = some r ∧ (W.alloc o).drew.cell? ⟨B, i3, none⟩ = some s ∧ (W.alloc o).drew.cell? ⟨B, i4, none⟩ = some t := by
  have hb : Below W.heap.size W (W.alloc o).drew := ((Below.refl _ _).alloc (Nat.le_refl _) _).drew
  exact ⟨(hb.cell hM).trans h0, (hb.cell hg).trans h1, (hb.cell hg).trans h2, (hb.cell hB).trans h3, (hb.cell hB).trans h4⟩
theorem S5_alloc2 {W : World} {M g B i1 i2 i3 i4 : Nat} {p q r s t : Value} {o o' : Obj} (hM : M < W.heap.size) (hg : g < W.heap.size) (hB : B < W.heap.size) (h0 : W.cell? ⟨M, 0, none⟩ = some p) (h1 : W.cell? ⟨g, i1, none⟩ = some q) (h2 : W.cell? ⟨g, i2, none⟩ = some r) (h3 : W.cell? ⟨B, i3, none⟩ = some s) (h4 : W.cell? ⟨B, i4, none⟩ = some t) :
    ((W.alloc o).alloc o').drew.cell? ⟨M, 0, none⟩ = some p ∧ ((W.alloc o).alloc o').drew.cell? ⟨g, i1, none⟩ = some q ∧ ((W.alloc o).alloc o').drew.cell? ⟨g, i2, none⟩ = some r ∧ ((W.alloc o).alloc o').drew.cell? ⟨B, i3, none⟩ = some s ∧ ((W.alloc o).alloc o').drew.cell? ⟨B, i4, none⟩ = some t := by
  have hb : Below W.heap.size W ((W.alloc o).alloc o').drew := (((Below.refl _ _).alloc (Nat.le_refl _) _).alloc (by simp) _).drew
  exact ⟨(hb.cell hM).trans h0, (hb.cell hg).trans h1, (hb.cell hg).trans h2, (hb.cell hB).trans h3, (hb.cell hB).trans h4⟩

theorem laid_set {N D : List Int} {k : Nat} {v : Int} (hk : k < D.length) (hN : N.length = D.length) (hv : N[k]? = some v) : (N.take k ++ D.drop k).set k v = N.take (k + 1) ++ D.drop (k + 1) := by
  rw [take_succ_at hv]
  exact set_take_drop hk (by simp; omega)
theorem laid_skip {N D : List Int} {k : Nat} (hk : k < D.length) (hv : N[k]? = D[k]?) : N.take k ++ D.drop k = N.take (k + 1) ++ D.drop (k + 1) := by
  rw [List.getElem?_eq_getElem hk] at hv
  rw [take_succ_at hv, List.drop_eq_getElem_cons hk, List.append_assoc]
  rfl
theorem Only.drewN {g : Nat} {a w : World} (h : Only g a w) (n : Nat) : Only g a (w.drewN n) := ⟨h.os, h.tape, h.output, h.size, h.block⟩
theorem IBlk.drewN {w : World} {g : Nat} {l : List Int} (h : IBlk w g l) (n : Nat) : IBlk (w.drewN n) g l := h
theorem Only.drew {g : Nat} {a w : World} (h : Only g a w) : Only g a w.drew := ⟨h.os, h.tape, h.output, h.size, h.block⟩
theorem getD_at {l : List Int} {k : Nat} (h : k < l.length) : l[k]? = some (l.getD k 0) := by rw [List.getD_eq_getElem?_getD, List.getElem?_eq_getElem h]; rfl

set_option maxRecDepth 100000 in
set_option maxHeartbeats 3200000 in
theorem doRelu {w : World} {M B cap : Nat} {gs : List Nat} {vs : List (List Int)} {h wd : Int} (m : Mach w M B cap gs vs h wd) {dn sn gd gc : Nat} {D S : List Int} (d1 : gs[dn]? = some gd) (d2 : vs[dn]? = some D) (s1 : gs[sn]? = some gc) (s2 : vs[sn]? = some S) (hne : dn ≠ sn)
    (ot co inn mu sh : Int) (a1 a2 a3 : Option Addr) (l1 l2 l3 c1 c2 c3 : Nat) (hlen : D.length = S.length) (hS : S.length ≤ 262144) (hD : D.length ≤ 262144) :
    Calls Tryz.prog 18 #[.pointer (some ⟨M, 0, none⟩), .agg #[.int .i64 3, .int .i64 (dn : Int), .int .i64 (sn : Int), .int .i64 ot, .int .i64 co, .int .i64 inn, .slice a1 l1 c1, .slice a2 l2 c2, .slice a3 l3 c3, .int .i64 mu, .int .i64 sh]] w
      fun e w' => (∃ u, e = .returned u) ∧ DoRet w gd (S.map (fun x => max 0 x)) w' := by
  obtain ⟨r1, rb1⟩ := m.row dn gd D d1 d2
  obtain ⟨r2, rb2⟩ := m.row sn gc S s1 s2
  have m0 := m.m0
  have hdl : dn < gs.length := (List.getElem?_eq_some_iff.1 d1).1
  have hsl : sn < gs.length := (List.getElem?_eq_some_iff.1 s1).1
  have hcap := m.cap
  have mlt := m.mlt
  have blt := m.blt
  have hgs := m.ne d1 s1 hne
  have hMgd : M ≠ gd := fun e => m.nM (e ▸ List.mem_of_getElem? d1)
  have hBgd : B ≠ gd := fun e => m.nB (e ▸ List.mem_of_getElem? d1)
  have HLen := Lib.hid hlen
  obtain ⟨N, hN⟩ : ∃ N : List Int, N = S.map (fun x => max 0 x) := ⟨_, rfl⟩
  have HNl : Hid (N.length = D.length) := by unfold Hid; rw [hN, hlen]; simp
  have HN := Lib.hid hN
  rw [← hN]
  clear hlen hN
  go_enter Tryz.func18, Tryz.ntmps18
  go_upto_region 1 with fail
  have hbx := Box11.alloc w (.int .i64 3) (.int .i64 (dn : Int)) (.int .i64 (sn : Int)) (.int .i64 ot) (.int .i64 co) (.int .i64 inn) (.slice a1 l1 c1) (.slice a2 l2 c2) (.slice a3 l3 c3) (.int .i64 mu) (.int .i64 sh) 40
  have hb1 : Below w.heap.size w (w.alloc (.cells #[.int .i64 3, .int .i64 (dn : Int), .int .i64 (sn : Int), .int .i64 ot, .int .i64 co, .int .i64 inn, .slice a1 l1 c1, .slice a2 l2 c2, .slice a3 l3 c3, .int .i64 mu, .int .i64 sh] 40)) := (Below.refl _ _).alloc (Nat.le_refl _) _
  have hmW := m.below hb1
  have y0 := (hb1.cell mlt).trans m0
  have y1 := (hb1.cell blt).trans r1
  have y2 := (hb1.cell blt).trans r2
  have hMB : M < (w.alloc (.cells #[.int .i64 3, .int .i64 (dn : Int), .int .i64 (sn : Int), .int .i64 ot, .int .i64 co, .int .i64 inn, .slice a1 l1 c1, .slice a2 l2 c2, .slice a3 l3 c3, .int .i64 mu, .int .i64 sh] 40)).heap.size := by simp; omega
  have hBB : B < (w.alloc (.cells #[.int .i64 3, .int .i64 (dn : Int), .int .i64 (sn : Int), .int .i64 ot, .int .i64 co, .int .i64 inn, .slice a1 l1 c1, .slice a2 l2 c2, .slice a3 l3 c3, .int .i64 mu, .int .i64 sh] 40)).heap.size := by simp; omega
  have hgB : w.heap.size < (w.alloc (.cells #[.int .i64 3, .int .i64 (dn : Int), .int .i64 (sn : Int), .int .i64 ot, .int .i64 co, .int .i64 inn, .slice a1 l1 c1, .slice a2 l2 c2, .slice a3 l3 c3, .int .i64 mu, .int .i64 sh] 40)).heap.size := by simp
  generalize w.alloc (.cells #[.int .i64 3, .int .i64 (dn : Int), .int .i64 (sn : Int), .int .i64 ot, .int .i64 co, .int .i64 inn, .slice a1 l1 c1, .slice a2 l2 c2, .slice a3 l3 c3, .int .i64 mu, .int .i64 sh] 40) = W at *
  have z1 := hbx.c1
  have z2 := hbx.c2
  have HBx := Lib.hid hbx
  have HB1 := Lib.hid hb1
  have HMW := Lib.hid hmW
  have RB1 := Lib.hid rb1
  have RB2 := Lib.hid rb2
  clear m0 r1 r2 rb1 rb2 hbx hb1 hmW m
  go_cut [4, 5] (fun s4 s5 wx => DoCut W (.slice (some ⟨gd, 0, none⟩) D.length D.length) (.slice (some ⟨gc, 0, none⟩) S.length S.length) s4 s5 wx)
  case first =>
    go_region_held3 (fun w' => w'.cell? ⟨M, 0, none⟩ = some (.slice (some ⟨B, 0, none⟩) gs.length cap) ∧ w'.cell? ⟨w.heap.size, 1, none⟩ = some (.int .i64 (dn : Int)) ∧ w'.cell? ⟨w.heap.size, 2, none⟩ = some (.int .i64 (sn : Int)) ∧ w'.cell? ⟨B, dn, none⟩ = some (.slice (some ⟨gd, 0, none⟩) D.length D.length) ∧ w'.cell? ⟨B, sn, none⟩ = some (.slice (some ⟨gc, 0, none⟩) S.length S.length))
      (first
        | exact ⟨y0, z1, z2, y1, y2⟩
        | exact S5_alloc hMB hgB hBB y0 z1 z2 y1 y2
        | exact S5_alloc2 hMB hgB hBB y0 z1 z2 y1 y2
        | (refine ⟨?_, ?_, ?_, ?_, ?_⟩ <;> simp_all))
      (fail)
    all_goals (go_wp2_with fail; go_meet)
    all_goals first | exact DoCut.mk1 _ _ _ _ | exact DoCut.mk2 _ _ _ _
  case rest =>
    obtain ⟨g4, g5, rfl, rfl, p4, p5, hbw, q4, q5, q6, q7⟩ := hcut
    obtain ⟨u0, u1, u2, u3, u4, u5, u6, u7, u8, u9, u10, ult⟩ := HBx.out.below hbw
    have hgd : gd < W.heap.size := Nat.lt_of_lt_of_le RB1.out.lt HB1.out.size
    have hIS := (RB2.out.below HB1.out).below hbw
    have hID := (RB1.out.below HB1.out).below hbw
    have HIS := Lib.hid hIS
    have HBW := Lib.hid (HB1.out.trans (hbw.mono HB1.out.size))
    have HMc := Lib.hid (HMW.out.below hbw)
    have n4 : g4 ≠ gd := by omega
    have n5 : g5 ≠ gd := by omega
    have nbx : w.heap.size ≠ gd := by have := RB1.out.lt; omega
    clear y0 y1 y2 z1 z2 hMB hgB hBB hbw hIS
    go_wp2
    obtain ⟨wo, hwo⟩ : ∃ wo : World, wo = wc := ⟨_, rfl⟩
    subst hwo
    go_loopw [99] (fun i wr => ∃ k : Nat, k ≤ S.length ∧ i = .int .i64 (k : Int) ∧ Only gd wo wr ∧ Hid (IBlk wr gd (N.take k ++ D.drop k))) (fun i _ => S.length - (intOf i).toNat)
    case atStart => exact ⟨0, Nat.zero_le _, rfl, Only.refl _ _, by simpa [Hid] using hID⟩
    case round =>
      clear hID
      obtain ⟨k, hk, rfl, hO, HI⟩ := hrel
      have p4' := (hO.cell (p := ⟨g4, 0, none⟩) n4).trans p4
      by_cases hlt : k < S.length
      · have hkD : k < D.length := by rw [HLen.out]; exact hlt
        have cd := HI.out.cell (x := k) (by simp; have := HNl.out; omega)
        have fd := HI.out.free k
        have cs := (HIS.out.only hO hgs).cell hlt
        have HSt : Hid ((N.take k ++ D.drop k).set k (max 0 (S.getD k 0)) = N.take (k + 1) ++ D.drop (k + 1)) := laid_set hkD HNl.out (by rw [HN.out, List.getElem?_map, getD_at hlt]; rfl)
        have HO := Lib.hid hO
        generalize S.getD k 0 = x at cs HSt
        clear hO
        go_wp2
        go_roundw
        case rel =>
          refine ⟨k + 1, hlt, by go_num, HO.out.setCell k _, ?_⟩
          have h1 := (HI.out).set k (max 0 x)
          rw [HSt.out] at h1
          exact h1
        case measure => simp [intOf]; omega
      · obtain rfl : k = S.length := by omega
        have HFin : Hid (IBlk wr gd N) := by
          have h1 := HI.out
          rw [List.take_of_length_le (by rw [HNl.out, HLen.out]; exact Nat.le_refl _), List.drop_of_length_le (by rw [HLen.out]; exact Nat.le_refl _), List.append_nil] at h1
          exact h1
        have HO := Lib.hid hO
        clear hO
        go_wp2
        go_end0
        exact ⟨⟨_, rfl⟩, _, HBW.out, HO.out, HFin.out⟩

set_option maxRecDepth 100000 in
set_option maxHeartbeats 3200000 in
theorem doScale {w : World} {M B cap : Nat} {gs : List Nat} {vs : List (List Int)} {h wd : Int} (m : Mach w M B cap gs vs h wd) {dn sn gd gc : Nat} {D S : List Int} (d1 : gs[dn]? = some gd) (d2 : vs[dn]? = some D) (s1 : gs[sn]? = some gc) (s2 : vs[sn]? = some S) (hne : dn ≠ sn)
    (ot co inn mu : Int) (a1 a2 a3 : Option Addr) (l1 l2 l3 c1 c2 c3 : Nat) (hlen : D.length = S.length) (hS : S.length ≤ 262144) (hD : D.length ≤ 262144) (sn2 : Nat) (hs2 : sn2 ≤ 62) (hmu : I64 mu) (hS64 : ∀ x ∈ S, I64 x) :
    Calls Tryz.prog 18 #[.pointer (some ⟨M, 0, none⟩), .agg #[.int .i64 7, .int .i64 (dn : Int), .int .i64 (sn : Int), .int .i64 ot, .int .i64 co, .int .i64 inn, .slice a1 l1 c1, .slice a2 l2 c2, .slice a3 l3 c3, .int .i64 mu, .int .i64 (sn2 : Int)]] w
      fun e w' => (∃ u, e = .returned u) ∧ DoRet w gd (S.map (fun x => scaleL x mu sn2)) w' := by
  obtain ⟨r1, rb1⟩ := m.row dn gd D d1 d2
  obtain ⟨r2, rb2⟩ := m.row sn gc S s1 s2
  have m0 := m.m0
  have hdl : dn < gs.length := (List.getElem?_eq_some_iff.1 d1).1
  have hsl : sn < gs.length := (List.getElem?_eq_some_iff.1 s1).1
  have hcap := m.cap
  have mlt := m.mlt
  have blt := m.blt
  have hgs := m.ne d1 s1 hne
  have hMgd : M ≠ gd := fun e => m.nM (e ▸ List.mem_of_getElem? d1)
  have hBgd : B ≠ gd := fun e => m.nB (e ▸ List.mem_of_getElem? d1)
  have HLen := Lib.hid hlen
  obtain ⟨N, hN⟩ : ∃ N : List Int, N = S.map (fun x => scaleL x mu sn2) := ⟨_, rfl⟩
  have HNl : Hid (N.length = D.length) := by unfold Hid; rw [hN, hlen]; simp
  have HN := Lib.hid hN
  rw [← hN]
  clear hlen hN
  go_enter Tryz.func18, Tryz.ntmps18
  go_upto_region 1 with fail
  have hbx := Box11.alloc w (.int .i64 7) (.int .i64 (dn : Int)) (.int .i64 (sn : Int)) (.int .i64 ot) (.int .i64 co) (.int .i64 inn) (.slice a1 l1 c1) (.slice a2 l2 c2) (.slice a3 l3 c3) (.int .i64 mu) (.int .i64 (sn2 : Int)) 40
  have hb1 : Below w.heap.size w (w.alloc (.cells #[.int .i64 7, .int .i64 (dn : Int), .int .i64 (sn : Int), .int .i64 ot, .int .i64 co, .int .i64 inn, .slice a1 l1 c1, .slice a2 l2 c2, .slice a3 l3 c3, .int .i64 mu, .int .i64 (sn2 : Int)] 40)) := (Below.refl _ _).alloc (Nat.le_refl _) _
  have hmW := m.below hb1
  have y0 := (hb1.cell mlt).trans m0
  have y1 := (hb1.cell blt).trans r1
  have y2 := (hb1.cell blt).trans r2
  have hMB : M < (w.alloc (.cells #[.int .i64 7, .int .i64 (dn : Int), .int .i64 (sn : Int), .int .i64 ot, .int .i64 co, .int .i64 inn, .slice a1 l1 c1, .slice a2 l2 c2, .slice a3 l3 c3, .int .i64 mu, .int .i64 (sn2 : Int)] 40)).heap.size := by simp; omega
  have hBB : B < (w.alloc (.cells #[.int .i64 7, .int .i64 (dn : Int), .int .i64 (sn : Int), .int .i64 ot, .int .i64 co, .int .i64 inn, .slice a1 l1 c1, .slice a2 l2 c2, .slice a3 l3 c3, .int .i64 mu, .int .i64 (sn2 : Int)] 40)).heap.size := by simp; omega
  have hgB : w.heap.size < (w.alloc (.cells #[.int .i64 7, .int .i64 (dn : Int), .int .i64 (sn : Int), .int .i64 ot, .int .i64 co, .int .i64 inn, .slice a1 l1 c1, .slice a2 l2 c2, .slice a3 l3 c3, .int .i64 mu, .int .i64 (sn2 : Int)] 40)).heap.size := by simp
  generalize w.alloc (.cells #[.int .i64 7, .int .i64 (dn : Int), .int .i64 (sn : Int), .int .i64 ot, .int .i64 co, .int .i64 inn, .slice a1 l1 c1, .slice a2 l2 c2, .slice a3 l3 c3, .int .i64 mu, .int .i64 (sn2 : Int)] 40) = W at *
  have z1 := hbx.c1
  have z2 := hbx.c2
  have HBx := Lib.hid hbx
  have HB1 := Lib.hid hb1
  have HMW := Lib.hid hmW
  have RB1 := Lib.hid rb1
  have RB2 := Lib.hid rb2
  clear m0 r1 r2 rb1 rb2 hbx hb1 hmW m
  go_cut [4, 5] (fun s4 s5 wx => DoCut W (.slice (some ⟨gd, 0, none⟩) D.length D.length) (.slice (some ⟨gc, 0, none⟩) S.length S.length) s4 s5 wx)
  case first =>
    go_region_held3 (fun w' => w'.cell? ⟨M, 0, none⟩ = some (.slice (some ⟨B, 0, none⟩) gs.length cap) ∧ w'.cell? ⟨w.heap.size, 1, none⟩ = some (.int .i64 (dn : Int)) ∧ w'.cell? ⟨w.heap.size, 2, none⟩ = some (.int .i64 (sn : Int)) ∧ w'.cell? ⟨B, dn, none⟩ = some (.slice (some ⟨gd, 0, none⟩) D.length D.length) ∧ w'.cell? ⟨B, sn, none⟩ = some (.slice (some ⟨gc, 0, none⟩) S.length S.length))
      (first
        | exact ⟨y0, z1, z2, y1, y2⟩
        | exact S5_alloc hMB hgB hBB y0 z1 z2 y1 y2
        | exact S5_alloc2 hMB hgB hBB y0 z1 z2 y1 y2
        | (refine ⟨?_, ?_, ?_, ?_, ?_⟩ <;> simp_all))
      (fail)
    all_goals (go_wp2_with fail; go_meet)
    all_goals first | exact DoCut.mk1 _ _ _ _ | exact DoCut.mk2 _ _ _ _
  case rest =>
    obtain ⟨g4, g5, rfl, rfl, p4, p5, hbw, q4, q5, q6, q7⟩ := hcut
    obtain ⟨u0, u1, u2, u3, u4, u5, u6, u7, u8, u9, u10, ult⟩ := HBx.out.below hbw
    have hgd : gd < W.heap.size := Nat.lt_of_lt_of_le RB1.out.lt HB1.out.size
    have hIS := (RB2.out.below HB1.out).below hbw
    have hID := (RB1.out.below HB1.out).below hbw
    have HIS := Lib.hid hIS
    have HBW := Lib.hid (HB1.out.trans (hbw.mono HB1.out.size))
    have HMc := Lib.hid (HMW.out.below hbw)
    have n4 : g4 ≠ gd := by omega
    have n5 : g5 ≠ gd := by omega
    have nbx : w.heap.size ≠ gd := by have := RB1.out.lt; omega
    clear y0 y1 y2 z1 z2 hMB hgB hBB hbw hIS
    go_wp2
    obtain ⟨wo, hwo⟩ : ∃ wo : World, wo = wc := ⟨_, rfl⟩
    subst hwo
    go_loopw [216] (fun i wr => ∃ k : Nat, k ≤ S.length ∧ i = .int .i64 (k : Int) ∧ Only gd wo wr ∧ Hid (IBlk wr gd (N.take k ++ D.drop k))) (fun i _ => S.length - (intOf i).toNat)
    case atStart => exact ⟨0, Nat.zero_le _, rfl, Only.refl _ _, by simpa [Hid] using hID⟩
    case round =>
      clear hID
      obtain ⟨k, hk, rfl, hO, HI⟩ := hrel
      have p4' := (hO.cell (p := ⟨g4, 0, none⟩) n4).trans p4
      by_cases hlt : k < S.length
      · have hkD : k < D.length := by rw [HLen.out]; exact hlt
        have cd := HI.out.cell (x := k) (by simp; have := HNl.out; omega)
        have fd := HI.out.free k
        have cs := (HIS.out.only hO hgs).cell hlt
        have hx64 := hS64 _ (List.mem_of_getElem? (getD_at hlt))
        have HSt : Hid ((N.take k ++ D.drop k).set k (scaleL (S.getD k 0) mu sn2) = N.take (k + 1) ++ D.drop (k + 1)) := laid_set hkD HNl.out (by rw [HN.out, List.getElem?_map, getD_at hlt]; rfl)
        have HSc := Lib.hid (fun wv => kScale (S.getD k 0) mu hx64 hmu sn2 hs2 wv)
        have b9 := (hO.cell (p := ⟨w.heap.size, 9, none⟩) nbx).trans u9
        have b10 := (hO.cell (p := ⟨w.heap.size, 10, none⟩) nbx).trans u10
        have HO := Lib.hid hO
        generalize S.getD k 0 = x at cs HSt HSc
        clear hO hx64
        go_wp2
        go_region_held3 (fun w' => w'.cell? ⟨g4, 0, none⟩ = some (.slice (some ⟨gd, 0, none⟩) D.length D.length) ∧ w'.cell? ⟨w.heap.size, 9, none⟩ = some (.int .i64 mu) ∧ w'.cell? ⟨w.heap.size, 10, none⟩ = some (.int .i64 (sn2 : Int)))
          (first | exact ⟨p4', b9, b10⟩ | (refine ⟨?_, ?_, ?_⟩ <;> first | (simp; assumption) | (rw [far2 (Ne.symm n4)]; simp; assumption) | (rw [far2 (Ne.symm nbx)]; simp; assumption)))
          ((go_at_call 30; refine (HSc.out _).mono ?_; rintro e w5 ⟨rfl, nd, rfl⟩))
        go_wp2
        go_roundw
        case rel =>
          refine ⟨k + 1, hlt, by go_num, (HO.out.drewN (1 + nd)).setCell k _, ?_⟩
          have h1 := (HI.out.drewN (1 + nd)).set k (scaleL x mu sn2)
          rw [HSt.out] at h1
          exact h1
        case measure => simp [intOf]; omega
      · obtain rfl : k = S.length := by omega
        have HFin : Hid (IBlk wr gd N) := by
          have h1 := HI.out
          rw [List.take_of_length_le (by rw [HNl.out, HLen.out]; exact Nat.le_refl _), List.drop_of_length_le (by rw [HLen.out]; exact Nat.le_refl _), List.append_nil] at h1
          exact h1
        have HO := Lib.hid hO
        clear hO
        go_wp2
        go_end0
        exact ⟨⟨_, rfl⟩, _, HBW.out, HO.out, HFin.out⟩

set_option maxRecDepth 100000 in
set_option maxHeartbeats 3200000 in
theorem doAdd {w : World} {M B cap : Nat} {gs : List Nat} {vs : List (List Int)} {h wd : Int} (m : Mach w M B cap gs vs h wd) {dn sn gd gc : Nat} {D S : List Int} (d1 : gs[dn]? = some gd) (d2 : vs[dn]? = some D) (s1 : gs[sn]? = some gc) (s2 : vs[sn]? = some S) (hne : dn ≠ sn)
    (co inn mu sh : Int) (a1 a2 a3 : Option Addr) (l1 l2 l3 c1 c2 c3 : Nat) (hlen : D.length = S.length) (hS : S.length ≤ 262144) (hD : D.length ≤ 262144) {on go : Nat} {O : List Int} (t1 : gs[on]? = some go) (t2 : vs[on]? = some O) (hlo : O.length = S.length) (hneO : dn ≠ on) :
    Calls Tryz.prog 18 #[.pointer (some ⟨M, 0, none⟩), .agg #[.int .i64 6, .int .i64 (dn : Int), .int .i64 (sn : Int), .int .i64 (on : Int), .int .i64 co, .int .i64 inn, .slice a1 l1 c1, .slice a2 l2 c2, .slice a3 l3 c3, .int .i64 mu, .int .i64 sh]] w
      fun e w' => (∃ u, e = .returned u) ∧ DoRet w gd (List.zipWith (fun a b => wrap64 (a + b)) S O) w' := by
  obtain ⟨r1, rb1⟩ := m.row dn gd D d1 d2
  obtain ⟨r2, rb2⟩ := m.row sn gc S s1 s2
  have m0 := m.m0
  have hdl : dn < gs.length := (List.getElem?_eq_some_iff.1 d1).1
  have hsl : sn < gs.length := (List.getElem?_eq_some_iff.1 s1).1
  have hcap := m.cap
  have mlt := m.mlt
  have blt := m.blt
  have hgs := m.ne d1 s1 hne
  have hMgd : M ≠ gd := fun e => m.nM (e ▸ List.mem_of_getElem? d1)
  have hBgd : B ≠ gd := fun e => m.nB (e ▸ List.mem_of_getElem? d1)
  have HLen := Lib.hid hlen
  obtain ⟨N, hN⟩ : ∃ N : List Int, N = List.zipWith (fun a b => wrap64 (a + b)) S O := ⟨_, rfl⟩
  have HNl : Hid (N.length = D.length) := by unfold Hid; rw [hN, hlen]; simp [hlo]
  have HN := Lib.hid hN
  rw [← hN]
  clear hlen hN
  go_enter Tryz.func18, Tryz.ntmps18
  go_upto_region 1 with fail
  have hbx := Box11.alloc w (.int .i64 6) (.int .i64 (dn : Int)) (.int .i64 (sn : Int)) (.int .i64 (on : Int)) (.int .i64 co) (.int .i64 inn) (.slice a1 l1 c1) (.slice a2 l2 c2) (.slice a3 l3 c3) (.int .i64 mu) (.int .i64 sh) 40
  have hb1 : Below w.heap.size w (w.alloc (.cells #[.int .i64 6, .int .i64 (dn : Int), .int .i64 (sn : Int), .int .i64 (on : Int), .int .i64 co, .int .i64 inn, .slice a1 l1 c1, .slice a2 l2 c2, .slice a3 l3 c3, .int .i64 mu, .int .i64 sh] 40)) := (Below.refl _ _).alloc (Nat.le_refl _) _
  have hmW := m.below hb1
  have y0 := (hb1.cell mlt).trans m0
  have y1 := (hb1.cell blt).trans r1
  have y2 := (hb1.cell blt).trans r2
  have hMB : M < (w.alloc (.cells #[.int .i64 6, .int .i64 (dn : Int), .int .i64 (sn : Int), .int .i64 (on : Int), .int .i64 co, .int .i64 inn, .slice a1 l1 c1, .slice a2 l2 c2, .slice a3 l3 c3, .int .i64 mu, .int .i64 sh] 40)).heap.size := by simp; omega
  have hBB : B < (w.alloc (.cells #[.int .i64 6, .int .i64 (dn : Int), .int .i64 (sn : Int), .int .i64 (on : Int), .int .i64 co, .int .i64 inn, .slice a1 l1 c1, .slice a2 l2 c2, .slice a3 l3 c3, .int .i64 mu, .int .i64 sh] 40)).heap.size := by simp; omega
  have hgB : w.heap.size < (w.alloc (.cells #[.int .i64 6, .int .i64 (dn : Int), .int .i64 (sn : Int), .int .i64 (on : Int), .int .i64 co, .int .i64 inn, .slice a1 l1 c1, .slice a2 l2 c2, .slice a3 l3 c3, .int .i64 mu, .int .i64 sh] 40)).heap.size := by simp
  generalize w.alloc (.cells #[.int .i64 6, .int .i64 (dn : Int), .int .i64 (sn : Int), .int .i64 (on : Int), .int .i64 co, .int .i64 inn, .slice a1 l1 c1, .slice a2 l2 c2, .slice a3 l3 c3, .int .i64 mu, .int .i64 sh] 40) = W at *
  have z1 := hbx.c1
  have z2 := hbx.c2
  have HBx := Lib.hid hbx
  have HB1 := Lib.hid hb1
  have HMW := Lib.hid hmW
  have RB1 := Lib.hid rb1
  have RB2 := Lib.hid rb2
  clear m0 r1 r2 rb1 rb2 hbx hb1 hmW m
  go_cut [4, 5] (fun s4 s5 wx => DoCut W (.slice (some ⟨gd, 0, none⟩) D.length D.length) (.slice (some ⟨gc, 0, none⟩) S.length S.length) s4 s5 wx)
  case first =>
    go_region_held3 (fun w' => w'.cell? ⟨M, 0, none⟩ = some (.slice (some ⟨B, 0, none⟩) gs.length cap) ∧ w'.cell? ⟨w.heap.size, 1, none⟩ = some (.int .i64 (dn : Int)) ∧ w'.cell? ⟨w.heap.size, 2, none⟩ = some (.int .i64 (sn : Int)) ∧ w'.cell? ⟨B, dn, none⟩ = some (.slice (some ⟨gd, 0, none⟩) D.length D.length) ∧ w'.cell? ⟨B, sn, none⟩ = some (.slice (some ⟨gc, 0, none⟩) S.length S.length))
      (first
        | exact ⟨y0, z1, z2, y1, y2⟩
        | exact S5_alloc hMB hgB hBB y0 z1 z2 y1 y2
        | exact S5_alloc2 hMB hgB hBB y0 z1 z2 y1 y2
        | (refine ⟨?_, ?_, ?_, ?_, ?_⟩ <;> simp_all))
      (fail)
    all_goals (go_wp2_with fail; go_meet)
    all_goals first | exact DoCut.mk1 _ _ _ _ | exact DoCut.mk2 _ _ _ _
  case rest =>
    obtain ⟨g4, g5, rfl, rfl, p4, p5, hbw, q4, q5, q6, q7⟩ := hcut
    obtain ⟨u0, u1, u2, u3, u4, u5, u6, u7, u8, u9, u10, ult⟩ := HBx.out.below hbw
    have hgd : gd < W.heap.size := Nat.lt_of_lt_of_le RB1.out.lt HB1.out.size
    have hIS := (RB2.out.below HB1.out).below hbw
    have hID := (RB1.out.below HB1.out).below hbw
    have HIS := Lib.hid hIS
    have HBW := Lib.hid (HB1.out.trans (hbw.mono HB1.out.size))
    have HMc := Lib.hid (HMW.out.below hbw)
    have n4 : g4 ≠ gd := by omega
    have n5 : g5 ≠ gd := by omega
    have nbx : w.heap.size ≠ gd := by have := RB1.out.lt; omega
    clear y0 y1 y2 z1 z2 hMB hgB hBB hbw hIS
    have hOO := (HMc.out.row on go O t1 t2)
    have HOB := Lib.hid hOO.2
    have k1 := hOO.1
    have k0 := HMc.out.m0
    have hgo := HMc.out.ne d1 t1 hneO
    have hol : on < gs.length := (List.getElem?_eq_some_iff.1 t1).1
    clear hOO
    go_wp2
    obtain ⟨wo, hwo⟩ : ∃ wo : World, wo = wc := ⟨_, rfl⟩
    subst hwo
    go_loopw [190] (fun i wr => ∃ k : Nat, k ≤ S.length ∧ i = .int .i64 (k : Int) ∧ Only gd wo wr ∧ Hid (IBlk wr gd (N.take k ++ D.drop k))) (fun i _ => S.length - (intOf i).toNat)
    case atStart => exact ⟨0, Nat.zero_le _, rfl, Only.refl _ _, by simpa [Hid] using hID⟩
    case round =>
      clear hID
      obtain ⟨k, hk, rfl, hO, HI⟩ := hrel
      have p4' := (hO.cell (p := ⟨g4, 0, none⟩) n4).trans p4
      by_cases hlt : k < S.length
      · have hkD : k < D.length := by rw [HLen.out]; exact hlt
        have cd := HI.out.cell (x := k) (by simp; have := HNl.out; omega)
        have fd := HI.out.free k
        have cs := (HIS.out.only hO hgs).cell hlt
        have co' := (HOB.out.only hO hgo).cell (x := k) (by rw [hlo]; exact hlt)
        have HSt : Hid ((N.take k ++ D.drop k).set k (wrap64 (S.getD k 0 + O.getD k 0)) = N.take (k + 1) ++ D.drop (k + 1)) := laid_set hkD HNl.out (by rw [HN.out, List.getElem?_zipWith, getD_at hlt, getD_at (show k < O.length by rw [hlo]; exact hlt)])
        have b3 := (hO.cell (p := ⟨w.heap.size, 3, none⟩) nbx).trans u3
        have m0' := (hO.cell (p := ⟨M, 0, none⟩) hMgd).trans k0
        have m1' := (hO.cell (p := ⟨B, on, none⟩) hBgd).trans k1
        have hkO : k < O.length := by rw [hlo]; exact hlt
        have HO := Lib.hid hO
        generalize S.getD k 0 = x at cs HSt
        generalize O.getD k 0 = y at co' HSt
        clear hO
        go_wp2
        go_region_held3 (fun w' => w'.cell? ⟨g4, 0, none⟩ = some (.slice (some ⟨gd, 0, none⟩) D.length D.length) ∧ w'.cell? ⟨M, 0, none⟩ = some (.slice (some ⟨B, 0, none⟩) gs.length cap) ∧ w'.cell? ⟨w.heap.size, 3, none⟩ = some (.int .i64 (on : Int)) ∧ w'.cell? ⟨B, on, none⟩ = some (.slice (some ⟨go, 0, none⟩) O.length O.length) ∧ w'.cell? ⟨go, k, none⟩ = some (.int .i64 y))
          (first | exact ⟨p4', m0', b3, m1', co'⟩ | exact ⟨(far2 (Ne.symm n4)).trans p4', (far2 (Ne.symm hMgd)).trans m0', (far2 (Ne.symm nbx)).trans b3, (far2 (Ne.symm hBgd)).trans m1', (far2 (Ne.symm hgo)).trans co'⟩)
          (fail)
        go_wp2
        go_roundw
        case rel =>
          refine ⟨k + 1, hlt, by go_num, (HO.out.setCell k _).drew, ?_⟩
          have h1 := HI.out.set k (wrap64 (x + y))
          rw [HSt.out] at h1
          exact h1
        case measure => simp [intOf]; omega
      · obtain rfl : k = S.length := by omega
        have HFin : Hid (IBlk wr gd N) := by
          have h1 := HI.out
          rw [List.take_of_length_le (by rw [HNl.out, HLen.out]; exact Nat.le_refl _), List.drop_of_length_le (by rw [HLen.out]; exact Nat.le_refl _), List.append_nil] at h1
          exact h1
        have HO := Lib.hid hO
        clear hO
        go_wp2
        go_end0
        exact ⟨⟨_, rfl⟩, _, HBW.out, HO.out, HFin.out⟩

set_option maxRecDepth 100000 in
set_option maxHeartbeats 3200000 in
theorem doGather {w : World} {M B cap : Nat} {gs : List Nat} {vs : List (List Int)} {h wd : Int} (m : Mach w M B cap gs vs h wd) {dn sn gd gc : Nat} {D S : List Int} (d1 : gs[dn]? = some gd) (d2 : vs[dn]? = some D) (s1 : gs[sn]? = some gc) (s2 : vs[sn]? = some S) (hne : dn ≠ sn)
    (ot co inn mu sh : Int) (a1 a2 a3 : Option Addr) (l2 l3 c1 c2 c3 : Nat)  (hS : S.length ≤ 262144) (hD : D.length ≤ 262144) {L : List Int} (hlen : D.length = L.length) {F : Nat → Prop} (hX : Ints w F a1 L) (hF : ∀ b, F b → b ≠ gd) (hLr : ∀ x ∈ L, -1 ≤ x ∧ x < (S.length : Int)) :
    Calls Tryz.prog 18 #[.pointer (some ⟨M, 0, none⟩), .agg #[.int .i64 1, .int .i64 (dn : Int), .int .i64 (sn : Int), .int .i64 ot, .int .i64 co, .int .i64 inn, .slice a1 L.length c1, .slice a2 l2 c2, .slice a3 l3 c3, .int .i64 mu, .int .i64 sh]] w
      fun e w' => (∃ u, e = .returned u) ∧ DoRet w gd (List.zipWith (fun x d => if 0 ≤ x then S.getD x.toNat 0 else d) L D) w' := by
  obtain ⟨r1, rb1⟩ := m.row dn gd D d1 d2
  obtain ⟨r2, rb2⟩ := m.row sn gc S s1 s2
  have m0 := m.m0
  have hdl : dn < gs.length := (List.getElem?_eq_some_iff.1 d1).1
  have hsl : sn < gs.length := (List.getElem?_eq_some_iff.1 s1).1
  have hcap := m.cap
  have mlt := m.mlt
  have blt := m.blt
  have hgs := m.ne d1 s1 hne
  have hMgd : M ≠ gd := fun e => m.nM (e ▸ List.mem_of_getElem? d1)
  have hBgd : B ≠ gd := fun e => m.nB (e ▸ List.mem_of_getElem? d1)
  have HLen := Lib.hid hlen
  obtain ⟨N, hN⟩ : ∃ N : List Int, N = List.zipWith (fun x d => if 0 ≤ x then S.getD x.toNat 0 else d) L D := ⟨_, rfl⟩
  have HNl : Hid (N.length = D.length) := by unfold Hid; rw [hN, hlen]; simp [hlen]
  have HN := Lib.hid hN
  rw [← hN]
  clear hlen hN
  go_enter Tryz.func18, Tryz.ntmps18
  go_upto_region 1 with fail
  have hbx := Box11.alloc w (.int .i64 1) (.int .i64 (dn : Int)) (.int .i64 (sn : Int)) (.int .i64 ot) (.int .i64 co) (.int .i64 inn) (.slice a1 L.length c1) (.slice a2 l2 c2) (.slice a3 l3 c3) (.int .i64 mu) (.int .i64 sh) 40
  have hb1 : Below w.heap.size w (w.alloc (.cells #[.int .i64 1, .int .i64 (dn : Int), .int .i64 (sn : Int), .int .i64 ot, .int .i64 co, .int .i64 inn, .slice a1 L.length c1, .slice a2 l2 c2, .slice a3 l3 c3, .int .i64 mu, .int .i64 sh] 40)) := (Below.refl _ _).alloc (Nat.le_refl _) _
  have hmW := m.below hb1
  have y0 := (hb1.cell mlt).trans m0
  have y1 := (hb1.cell blt).trans r1
  have y2 := (hb1.cell blt).trans r2
  have hMB : M < (w.alloc (.cells #[.int .i64 1, .int .i64 (dn : Int), .int .i64 (sn : Int), .int .i64 ot, .int .i64 co, .int .i64 inn, .slice a1 L.length c1, .slice a2 l2 c2, .slice a3 l3 c3, .int .i64 mu, .int .i64 sh] 40)).heap.size := by simp; omega
  have hBB : B < (w.alloc (.cells #[.int .i64 1, .int .i64 (dn : Int), .int .i64 (sn : Int), .int .i64 ot, .int .i64 co, .int .i64 inn, .slice a1 L.length c1, .slice a2 l2 c2, .slice a3 l3 c3, .int .i64 mu, .int .i64 sh] 40)).heap.size := by simp; omega
  have hgB : w.heap.size < (w.alloc (.cells #[.int .i64 1, .int .i64 (dn : Int), .int .i64 (sn : Int), .int .i64 ot, .int .i64 co, .int .i64 inn, .slice a1 L.length c1, .slice a2 l2 c2, .slice a3 l3 c3, .int .i64 mu, .int .i64 sh] 40)).heap.size := by simp
  generalize w.alloc (.cells #[.int .i64 1, .int .i64 (dn : Int), .int .i64 (sn : Int), .int .i64 ot, .int .i64 co, .int .i64 inn, .slice a1 L.length c1, .slice a2 l2 c2, .slice a3 l3 c3, .int .i64 mu, .int .i64 sh] 40) = W at *
  have z1 := hbx.c1
  have z2 := hbx.c2
  have HBx := Lib.hid hbx
  have HB1 := Lib.hid hb1
  have HMW := Lib.hid hmW
  have RB1 := Lib.hid rb1
  have RB2 := Lib.hid rb2
  clear m0 r1 r2 rb1 rb2 hbx hb1 hmW m
  go_cut [4, 5] (fun s4 s5 wx => DoCut W (.slice (some ⟨gd, 0, none⟩) D.length D.length) (.slice (some ⟨gc, 0, none⟩) S.length S.length) s4 s5 wx)
  case first =>
    go_region_held3 (fun w' => w'.cell? ⟨M, 0, none⟩ = some (.slice (some ⟨B, 0, none⟩) gs.length cap) ∧ w'.cell? ⟨w.heap.size, 1, none⟩ = some (.int .i64 (dn : Int)) ∧ w'.cell? ⟨w.heap.size, 2, none⟩ = some (.int .i64 (sn : Int)) ∧ w'.cell? ⟨B, dn, none⟩ = some (.slice (some ⟨gd, 0, none⟩) D.length D.length) ∧ w'.cell? ⟨B, sn, none⟩ = some (.slice (some ⟨gc, 0, none⟩) S.length S.length))
      (first
        | exact ⟨y0, z1, z2, y1, y2⟩
        | exact S5_alloc hMB hgB hBB y0 z1 z2 y1 y2
        | exact S5_alloc2 hMB hgB hBB y0 z1 z2 y1 y2
        | (refine ⟨?_, ?_, ?_, ?_, ?_⟩ <;> simp_all))
      (fail)
    all_goals (go_wp2_with fail; go_meet)
    all_goals first | exact DoCut.mk1 _ _ _ _ | exact DoCut.mk2 _ _ _ _
  case rest =>
    obtain ⟨g4, g5, rfl, rfl, p4, p5, hbw, q4, q5, q6, q7⟩ := hcut
    obtain ⟨u0, u1, u2, u3, u4, u5, u6, u7, u8, u9, u10, ult⟩ := HBx.out.below hbw
    have hgd : gd < W.heap.size := Nat.lt_of_lt_of_le RB1.out.lt HB1.out.size
    have hIS := (RB2.out.below HB1.out).below hbw
    have hID := (RB1.out.below HB1.out).below hbw
    have HIS := Lib.hid hIS
    have HBW := Lib.hid (HB1.out.trans (hbw.mono HB1.out.size))
    have HMc := Lib.hid (HMW.out.below hbw)
    have n4 : g4 ≠ gd := by omega
    have n5 : g5 ≠ gd := by omega
    have nbx : w.heap.size ≠ gd := by have := RB1.out.lt; omega
    clear y0 y1 y2 z1 z2 hMB hgB hBB hbw hIS
    have HLx := Lib.hid (hX.below HBW.out)
    clear hX
    go_wp2
    obtain ⟨wo, hwo⟩ : ∃ wo : World, wo = wc := ⟨_, rfl⟩
    subst hwo
    go_loopw [47] (fun i wr => ∃ k : Nat, k ≤ L.length ∧ i = .int .i64 (k : Int) ∧ Only gd wo wr ∧ Hid (IBlk wr gd (N.take k ++ D.drop k))) (fun i _ => L.length - (intOf i).toNat)
    case atStart => exact ⟨0, Nat.zero_le _, rfl, Only.refl _ _, by simpa [Hid] using hID⟩
    case round =>
      clear hID
      obtain ⟨k, hk, rfl, hO, HI⟩ := hrel
      have p4' := (hO.cell (p := ⟨g4, 0, none⟩) n4).trans p4
      by_cases hlt : k < L.length
      · have hkD : k < D.length := by rw [HLen.out]; exact hlt
        have cd := HI.out.cell (x := k) (by simp; have := HNl.out; omega)
        have fd := HI.out.free k
        obtain ⟨b, off, x, rfl, hcell, hx, _, hbs, hFb, _, _⟩ := HLx.out.pick2 hlt
        have hbg : b ≠ gd := hF b hFb
        have ci := (hO.cell (p := ⟨b, off + k, none⟩) hbg).trans hcell
        obtain ⟨xr1, xr2⟩ := hLr x (List.mem_of_getElem? hx)
        by_cases hx0 : 0 ≤ x
        · obtain ⟨xn, rfl⟩ := Int.eq_ofNat_of_zero_le hx0
          have hxs : xn < S.length := by omega
          have cs := (HIS.out.only hO hgs).cell hxs
          have p5' := (hO.cell (p := ⟨g5, 0, none⟩) n5).trans p5
          have HSt : Hid ((N.take k ++ D.drop k).set k (S.getD xn 0) = N.take (k + 1) ++ D.drop (k + 1)) := laid_set hkD HNl.out (by rw [HN.out, List.getElem?_zipWith, hx, getD_at hkD]; simp)
          have HO := Lib.hid hO
          generalize S.getD xn 0 = y at cs HSt
          clear hO hcell hx
          go_wp2
          go_region_held3 (fun w' => w'.cell? ⟨g4, 0, none⟩ = some (.slice (some ⟨gd, 0, none⟩) D.length D.length) ∧ w'.cell? ⟨g5, 0, none⟩ = some (.slice (some ⟨gc, 0, none⟩) S.length S.length) ∧ w'.cell? ⟨gc, xn, none⟩ = some (.int .i64 y))
            (first | exact ⟨p4', p5', cs⟩ | exact ⟨(far2 (Ne.symm n4)).trans p4', (far2 (Ne.symm n5)).trans p5', (far2 (Ne.symm hgs)).trans cs⟩)
            (fail)
          go_wp2
          go_roundw
          case rel =>
            refine ⟨k + 1, hlt, by go_num, (HO.out.setCell k _).drew, ?_⟩
            have h1 := HI.out.set k y
            rw [HSt.out] at h1
            exact h1
          case measure => simp [intOf]; omega
        · have HSt : Hid (N.take k ++ D.drop k = N.take (k + 1) ++ D.drop (k + 1)) := laid_skip hkD (by rw [HN.out, List.getElem?_zipWith, hx, getD_at hkD]; simp [hx0])
          have HO := Lib.hid hO
          clear hO hcell hx
          go_wp2
          go_roundw
          case rel => exact ⟨k + 1, hlt, by go_num, HO.out, by unfold Hid; rw [← HSt.out]; exact HI.out⟩
          case measure => simp [intOf]; omega
      · obtain rfl : k = L.length := by omega
        have HFin : Hid (IBlk wr gd N) := by
          have h1 := HI.out
          rw [List.take_of_length_le (by rw [HNl.out, HLen.out]; exact Nat.le_refl _), List.drop_of_length_le (by rw [HLen.out]; exact Nat.le_refl _), List.append_nil] at h1
          exact h1
        have HO := Lib.hid hO
        clear hO
        go_wp2
        go_end0
        exact ⟨⟨_, rfl⟩, _, HBW.out, HO.out, HFin.out⟩

end Go.Proofs.YthlmgejikbmmaaaGreat

/-
  The walk of kernel.gemm: by contract.
-/
namespace Go.Proofs.YthlmgejikbmmaaaGreat
open Go.RowKit

/-- Some cells anew. -/
def updL (p : Nat → Bool) (f : Nat → Int) (D : List Int) : List Int := (List.range D.length).map fun q => if p q then f q else D.getD q 0
theorem updL_len (p : Nat → Bool) (f : Nat → Int) (D : List Int) : (updL p f D).length = D.length := by simp [updL]
theorem updL_none {p : Nat → Bool} {f : Nat → Int} {D : List Int} (h : ∀ q, q < D.length → p q = false) : updL p f D = D := by
  unfold updL
  apply List.ext_getElem
  · simp
  · intro i h1 h2
    simp only [List.getElem_map, List.getElem_range]
    rw [h i h2]
    simp [List.getD_eq_getElem?_getD, h2]
theorem updL_congr {p p' : Nat → Bool} {f : Nat → Int} {D : List Int} (h : ∀ q, q < D.length → p q = p' q) : updL p f D = updL p' f D := by
  unfold updL
  apply List.map_congr_left
  intro q hq
  rw [h q (List.mem_range.1 hq)]
theorem updL_set {p p' : Nat → Bool} {f : Nat → Int} {D : List Int} {q0 : Nat} (hq : q0 < D.length) (h : ∀ q, q < D.length → p' q = (p q || q == q0)) : (updL p f D).set q0 (f q0) = updL p' f D := by
  unfold updL
  apply List.ext_getElem
  · simp
  · intro i h1 h2
    have hi : i < D.length := by simpa using h2
    rw [List.getElem_set]
    simp only [List.getElem_map, List.getElem_range]
    rw [h i hi]
    by_cases e : q0 = i
    · subst e; simp
    · have e2 : (i == q0) = false := by rw [beq_eq_false_iff_ne]; exact fun h => e h.symm
      rw [if_neg e, e2, Bool.or_false]

/-- A row times a column, from a start, modulo 2^64. -/
def gsum (Wt S : List Int) (b : Int) (inner cols r c : Nat) : Nat → Int
  | 0 => b
  | k + 1 => wrap64 (gsum Wt S b inner cols r c k + wrap64 (Wt.getD (r * inner + k) 0 * S.getD (k * cols + c) 0))
/-- Element q of the product. -/
def gemmAt (Wt Bi S : List Int) (inner cols q : Nat) : Int := gsum Wt S (Bi.getD (q / cols) 0) inner cols (q / cols) (q % cols) inner
def inTile (cols r0 c0 nr nc q : Nat) : Bool := decide (r0 ≤ q / cols ∧ q / cols < r0 + nr ∧ c0 ≤ q % cols ∧ q % cols < c0 + nc)
def doneTo (cols r0 c0 nr nc r c q : Nat) : Bool := inTile cols r0 c0 nr nc q && decide (q / cols < r ∨ q / cols = r ∧ q % cols < c)

theorem rc_div {cols r c : Nat} (hc : c < cols) : (r * cols + c) / cols = r ∧ (r * cols + c) % cols = c := by
  have hp : 0 < cols := by omega
  exact ⟨by rw [Nat.mul_comm, Nat.mul_add_div hp, Nat.div_eq_of_lt hc, Nat.add_zero], by rw [Nat.mul_comm, Nat.mul_add_mod_self_left, Nat.mod_eq_of_lt hc]⟩
theorem doneTo_step {cols r0 c0 nr nc r c : Nat} (hr : r0 ≤ r) (hr2 : r < r0 + nr) (hc0 : c0 ≤ c) (hc : c < c0 + nc) (hcc : c0 + nc ≤ cols) (q : Nat) : doneTo cols r0 c0 nr nc r (c + 1) q = (doneTo cols r0 c0 nr nc r c q || q == r * cols + c) := by
  have hlt : c < cols := by omega
  obtain ⟨e1, e2⟩ := rc_div (r := r) hlt
  unfold doneTo inTile
  rw [Bool.eq_iff_iff]
  simp only [Bool.and_eq_true, Bool.or_eq_true, decide_eq_true_eq, beq_iff_eq]
  constructor
  · rintro ⟨h1, h2⟩
    by_cases h3 : q = r * cols + c
    · exact .inr h3
    · left
      refine ⟨h1, ?_⟩
      rcases h2 with h2 | ⟨h2, h4⟩
      · exact .inl h2
      · right
        refine ⟨h2, ?_⟩
        have : q % cols ≠ c := fun e => h3 (by have := Nat.div_add_mod q cols; rw [h2, e, Nat.mul_comm] at this; exact this.symm)
        omega
  · rintro (⟨h1, h2⟩ | h3)
    · refine ⟨h1, ?_⟩
      rcases h2 with h2 | ⟨h2, h4⟩
      · exact .inl h2
      · exact .inr ⟨h2, by omega⟩
    · subst h3
      rw [e1, e2]
      exact ⟨⟨hr, hr2, hc0, hc⟩, .inr ⟨rfl, by omega⟩⟩
theorem doneTo_row {cols r0 c0 nr nc r : Nat} (q : Nat) : doneTo cols r0 c0 nr nc r (c0 + nc) q = doneTo cols r0 c0 nr nc (r + 1) c0 q := by
  unfold doneTo inTile
  rw [Bool.eq_iff_iff]
  simp only [Bool.and_eq_true, decide_eq_true_eq]
  constructor
  · rintro ⟨h1, h2⟩
    exact ⟨h1, .inl (by rcases h2 with h | h <;> omega)⟩
  · rintro ⟨h1, h2⟩
    refine ⟨h1, ?_⟩
    rcases h2 with h2 | h2
    · rcases Nat.lt_or_ge (q / cols) r with h | h
      · exact .inl h
      · exact .inr ⟨by omega, h1.2.2.2⟩
    · omega
theorem doneTo_start {cols r0 c0 nr nc q : Nat} : doneTo cols r0 c0 nr nc r0 c0 q = false := by
  unfold doneTo inTile
  rw [Bool.and_eq_false_iff]
  by_cases h : r0 ≤ q / cols ∧ q / cols < r0 + nr ∧ c0 ≤ q % cols ∧ q % cols < c0 + nc
  · right; rw [decide_eq_false_iff_not]; omega
  · left; rw [decide_eq_false_iff_not]; exact h
theorem doneTo_end {cols r0 c0 nr nc q : Nat} : doneTo cols r0 c0 nr nc (r0 + nr) c0 q = inTile cols r0 c0 nr nc q := by
  unfold doneTo
  by_cases h : inTile cols r0 c0 nr nc q = true
  · rw [h, Bool.true_and]
    unfold inTile at h
    rw [decide_eq_true_eq] at h
    rw [decide_eq_true_eq]
    exact .inl h.2.1
  · rw [Bool.not_eq_true] at h; rw [h, Bool.false_and]

theorem Ints.cells {w : World} {F : Nat → Prop} {a : Option Addr} {l : List Int} (h : Ints w F a l) {k : Nat} (hk : k < l.length) :
    ∃ b off, a = some ⟨b, off, none⟩ ∧ F b ∧ b < w.heap.size ∧ ∀ j, j < l.length → w.cell? ⟨b, off + j, none⟩ = some (.int .i64 (l.getD j 0)) := by
  rcases h.row with rfl | ⟨b, off, rfl, hF, hb, hc⟩
  · simp at hk
  · exact ⟨b, off, rfl, hF, hb, fun j hj => hc j _ (getD_at hj)⟩

/-- A struct of four cells in block g. -/
structure Box4 (w : World) (g : Nat) (p0 p1 p2 p3 : Value) : Prop where
  c0 : w.cell? ⟨g, 0, none⟩ = some p0
  c1 : w.cell? ⟨g, 1, none⟩ = some p1
  c2 : w.cell? ⟨g, 2, none⟩ = some p2
  c3 : w.cell? ⟨g, 3, none⟩ = some p3
  lt : g < w.heap.size
theorem Box4.alloc (w : World) (p0 p1 p2 p3 : Value) (T : Nat) : Box4 (w.alloc (.cells #[p0, p1, p2, p3] T)) w.heap.size p0 p1 p2 p3 := by
  refine ⟨?_, ?_, ?_, ?_, by simp⟩ <;> (rw [World.cell?_alloc_at _ _ _ _ rfl]; rfl)

set_option maxRecDepth 100000 in
set_option maxHeartbeats 6400000 in
theorem kGemm {w : World} {gd gc : Nat} {D S Wt Bi : List Int} {F : Nat → Prop} (hD : IBlk w gd D) (hS : IBlk w gc S) (hne : gc ≠ gd) (kd ds sr ot mu sh : Int) (a1 a2 a3 : Option Addr) (l1 c1 c2 c3 : Nat) (hW : Ints w F a2 Wt) (hB : Ints w F a3 Bi) (hF : ∀ b, F b → b ≠ gd)
    (rows cols inner r0 c0 nr nc : Nat) (hr : rows = Bi.length) (hDl : D.length = rows * cols) (hSl : S.length = inner * cols) (hWl : Wt.length = rows * inner) (hb1 : r0 + nr ≤ rows) (hb2 : c0 + nc ≤ cols) (hz : rows ≤ 262144 ∧ cols ≤ 262144 ∧ inner ≤ 262144) :
    Calls Tryz.prog 29 #[.agg #[.int .i64 kd, .int .i64 ds, .int .i64 sr, .int .i64 ot, .int .i64 (cols : Int), .int .i64 (inner : Int), .slice a1 l1 c1, .slice a2 Wt.length c2, .slice a3 Bi.length c3, .int .i64 mu, .int .i64 sh], .slice (some ⟨gd, 0, none⟩) D.length D.length, .slice (some ⟨gc, 0, none⟩) S.length S.length, .agg #[.int .i64 (r0 : Int), .int .i64 (c0 : Int), .int .i64 (nr : Int), .int .i64 (nc : Int)]] w
      fun e w' => (∃ v, e = .returned v) ∧ DoRet w gd (updL (inTile cols r0 c0 nr nc) (gemmAt Wt Bi S inner cols) D) w' := by
  obtain ⟨z1, z2, z3⟩ := hz
  have HDl := Lib.hid hDl
  have HSl := Lib.hid hSl
  have HWl := Lib.hid hWl
  have HRw := Lib.hid hr
  have hdl : D.length ≤ 68719476736 := by rw [hDl]; exact Nat.le_trans (Nat.mul_le_mul z1 z2) (by decide)
  have hsl : S.length ≤ 68719476736 := by rw [hSl]; exact Nat.le_trans (Nat.mul_le_mul z3 z2) (by decide)
  have hwl := hW.len
  have hbl := hB.len
  have HD := Lib.hid hD
  have HS := Lib.hid hS
  have HW := Lib.hid hW
  have HB := Lib.hid hB
  have hgl := hD.lt
  clear hD hS hW hB hDl hSl hWl hr
  go_enter Tryz.func29, Tryz.ntmps29
  have hbx := (Box11.alloc w (.int .i64 kd) (.int .i64 ds) (.int .i64 sr) (.int .i64 ot) (.int .i64 (cols : Int)) (.int .i64 (inner : Int)) (.slice a1 l1 c1) (.slice a2 Wt.length c2) (.slice a3 Bi.length c3) (.int .i64 mu) (.int .i64 sh) 40).below ((Below.refl _ _).alloc (Nat.le_refl _) (.cells #[.int .i64 (r0 : Int), .int .i64 (c0 : Int), .int .i64 (nr : Int), .int .i64 (nc : Int)] 65))
  have hby := Box4.alloc (w.alloc (.cells #[.int .i64 kd, .int .i64 ds, .int .i64 sr, .int .i64 ot, .int .i64 (cols : Int), .int .i64 (inner : Int), .slice a1 l1 c1, .slice a2 Wt.length c2, .slice a3 Bi.length c3, .int .i64 mu, .int .i64 sh] 40)) (.int .i64 (r0 : Int)) (.int .i64 (c0 : Int)) (.int .i64 (nr : Int)) (.int .i64 (nc : Int)) 65
  have hbb : Below w.heap.size w ((w.alloc (.cells #[.int .i64 kd, .int .i64 ds, .int .i64 sr, .int .i64 ot, .int .i64 (cols : Int), .int .i64 (inner : Int), .slice a1 l1 c1, .slice a2 Wt.length c2, .slice a3 Bi.length c3, .int .i64 mu, .int .i64 sh] 40)).alloc (.cells #[.int .i64 (r0 : Int), .int .i64 (c0 : Int), .int .i64 (nr : Int), .int .i64 (nc : Int)] 65)) := ((Below.refl _ _).alloc (Nat.le_refl _) _).alloc (by simp) _
  simp only [World.size_alloc] at hby
  go_wp2
  generalize (w.alloc (.cells #[.int .i64 kd, .int .i64 ds, .int .i64 sr, .int .i64 ot, .int .i64 (cols : Int), .int .i64 (inner : Int), .slice a1 l1 c1, .slice a2 Wt.length c2, .slice a3 Bi.length c3, .int .i64 mu, .int .i64 sh] 40)).alloc (.cells #[.int .i64 (r0 : Int), .int .i64 (c0 : Int), .int .i64 (nr : Int), .int .i64 (nc : Int)] 65) = W at *
  have HBx := Lib.hid hbx
  have HBy := Lib.hid hby
  have HBB := Lib.hid hbb
  have HDW := Lib.hid (HD.out.below hbb)
  have HSW := Lib.hid (HS.out.below hbb)
  have HWW := Lib.hid (HW.out.below hbb)
  have HBW := Lib.hid (HB.out.below hbb)
  have n1 : w.heap.size ≠ gd := by omega
  have n2 : w.heap.size + 1 ≠ gd := by omega
  clear hbx hby hbb HD HS HW HB
  go_loopw [8] (fun i wr => ∃ r : Nat, r0 ≤ r ∧ r ≤ r0 + nr ∧ i = .int .i64 (r : Int) ∧ Only gd W wr ∧ Hid (IBlk wr gd (updL (doneTo cols r0 c0 nr nc r c0) (gemmAt Wt Bi S inner cols) D))) (fun i _ => r0 + nr - (intOf i).toNat)
  case atStart => exact ⟨r0, Nat.le_refl _, by omega, rfl, Only.refl _ _, by unfold Hid; rw [updL_none (fun q _ => doneTo_start)]; exact HDW.out⟩
  case round =>
    obtain ⟨r, hr1, hr2, rfl, hO, HI⟩ := hrel
    have e4 := (hO.cell (p := ⟨w.heap.size, 4, none⟩) n1).trans HBx.out.c4
    have e5 := (hO.cell (p := ⟨w.heap.size, 5, none⟩) n1).trans HBx.out.c5
    have e7 := (hO.cell (p := ⟨w.heap.size, 7, none⟩) n1).trans HBx.out.c7
    have e8 := (hO.cell (p := ⟨w.heap.size, 8, none⟩) n1).trans HBx.out.c8
    have t0 := (hO.cell (p := ⟨w.heap.size + 1, 0, none⟩) n2).trans HBy.out.c0
    have t1 := (hO.cell (p := ⟨w.heap.size + 1, 1, none⟩) n2).trans HBy.out.c1
    have t2 := (hO.cell (p := ⟨w.heap.size + 1, 2, none⟩) n2).trans HBy.out.c2
    have t3 := (hO.cell (p := ⟨w.heap.size + 1, 3, none⟩) n2).trans HBy.out.c3
    by_cases hlt : r < r0 + nr
    · have HO := Lib.hid hO
      obtain ⟨wo, hwo⟩ : ∃ wo : World, wo = wr := ⟨_, rfl⟩
      subst hwo
      clear hO
      go_wp2
      clear e4 e5 e7 e8 t0 t1 t2 t3
      go_loopw [9] (fun i wr => ∃ c : Nat, c0 ≤ c ∧ c ≤ c0 + nc ∧ i = .int .i64 (c : Int) ∧ Only gd W wr ∧ Hid (IBlk wr gd (updL (doneTo cols r0 c0 nr nc r c) (gemmAt Wt Bi S inner cols) D))) (fun i _ => c0 + nc - (intOf i).toNat)
      case atStart => exact ⟨c0, Nat.le_refl _, by omega, rfl, HO.out, HI⟩
      case round =>
        clear HI HO
        obtain ⟨c, hc1, hc2, rfl, hO, HI⟩ := hrel
        have e4 := (hO.cell (p := ⟨w.heap.size, 4, none⟩) n1).trans HBx.out.c4
        have e5 := (hO.cell (p := ⟨w.heap.size, 5, none⟩) n1).trans HBx.out.c5
        have e7 := (hO.cell (p := ⟨w.heap.size, 7, none⟩) n1).trans HBx.out.c7
        have e8 := (hO.cell (p := ⟨w.heap.size, 8, none⟩) n1).trans HBx.out.c8
        have t0 := (hO.cell (p := ⟨w.heap.size + 1, 0, none⟩) n2).trans HBy.out.c0
        have t1 := (hO.cell (p := ⟨w.heap.size + 1, 1, none⟩) n2).trans HBy.out.c1
        have t2 := (hO.cell (p := ⟨w.heap.size + 1, 2, none⟩) n2).trans HBy.out.c2
        have t3 := (hO.cell (p := ⟨w.heap.size + 1, 3, none⟩) n2).trans HBy.out.c3
        by_cases hltc : c < c0 + nc
        · have hrr : r < Bi.length := by rw [← HRw.out]; omega
          obtain ⟨b3, o3, rfl, hb3, _, hcb⟩ := HBW.out.cells hrr
          have cb := (hO.cell (p := ⟨b3, o3 + r, none⟩) (hF b3 hb3)).trans (hcb r hrr)
          have hcc : c < cols := by omega
          have hq0 : r * cols + c < D.length := by
            rw [HDl.out]
            exact Nat.lt_of_lt_of_le (Nat.add_lt_add_left hcc _) (by rw [← Nat.succ_mul]; exact Nat.mul_le_mul_right _ (by omega))
          have hI := HI.out
          have cd := hI.cell (x := r * cols + c) (by rw [updL_len]; exact hq0)
          have fd := hI.free (r * cols + c)
          have HO := Lib.hid hO
          have m3 : IntKind.i64.wrap ((r : Int) * (cols : Int)) = ((r * cols : Nat) : Int) := by
            rw [show ((r : Int) * (cols : Int)) = ((r * cols : Nat) : Int) by simp]; exact IntWalk.i64_in _ (by omega)
          obtain ⟨wo, hwo⟩ : ∃ wo : World, wo = wr := ⟨_, rfl⟩
          subst hwo
          have HM3 := Lib.hid m3
          have HCD := Lib.hid cd
          have HFD := Lib.hid fd
          generalize hbv : Bi.getD r 0 = bv at cb
          have HBv := Lib.hid hbv
          clear hO hcb m3 cd fd hI hbv
          go_wp2
          go_loopw [10, 41] (fun v i wr => ∃ k : Nat, k ≤ inner ∧ i = .int .i64 (k : Int) ∧ v = .int .i64 (gsum Wt S bv inner cols r c k) ∧ Hid (∃ n, wr = wo.drewN n)) (fun _ i _ => inner - (intOf i).toNat)
          case atStart => exact ⟨0, Nat.zero_le _, rfl, rfl, 0, rfl⟩
          case round =>
            obtain ⟨k, hk, rfl, rfl, HWr⟩ := hrel
            obtain ⟨nd, rfl⟩ := HWr.out
            by_cases hltk : k < inner
            · have hwi : r * inner + k < Wt.length := by
                rw [HWl.out]
                exact Nat.lt_of_lt_of_le (Nat.add_lt_add_left hltk _) (by rw [← Nat.succ_mul]; exact Nat.mul_le_mul_right _ (by omega))
              have hsi : k * cols + c < S.length := by
                rw [HSl.out]
                exact Nat.lt_of_lt_of_le (Nat.add_lt_add_left hcc _) (by rw [← Nat.succ_mul]; exact Nat.mul_le_mul_right _ (by omega))
              obtain ⟨b2, o2, rfl, hb2, _, hcw⟩ := HWW.out.cells hwi
              have cw := (HO.out.cell (p := ⟨b2, o2 + (r * inner + k), none⟩) (hF b2 hb2)).trans (hcw _ hwi)
              have cs := (HSW.out.only HO.out hne).cell hsi
              have hri : r * inner ≤ 68719476736 := Nat.le_trans (Nat.mul_le_mul (by omega : r ≤ 262144) z3) (by decide)
              have hkc : k * cols ≤ 68719476736 := Nat.le_trans (Nat.mul_le_mul (by omega : k ≤ 262144) z2) (by decide)
              have w1 : IntKind.i64.wrap ((r : Int) * (inner : Int)) = ((r * inner : Nat) : Int) := by
                rw [show ((r : Int) * (inner : Int)) = ((r * inner : Nat) : Int) by simp]; exact IntWalk.i64_in _ (by omega)
              have w2 : IntKind.i64.wrap ((k : Int) * (cols : Int)) = ((k * cols : Nat) : Int) := by
                rw [show ((k : Int) * (cols : Int)) = ((k * cols : Nat) : Int) by simp]; exact IntWalk.i64_in _ (by omega)
              have HG : Hid (gsum Wt S bv inner cols r c (k + 1) = wrap64 (gsum Wt S bv inner cols r c k + wrap64 (Wt.getD (r * inner + k) 0 * S.getD (k * cols + c) 0))) := rfl
              generalize hri' : r * inner = ri at *
              generalize hkc' : k * cols = kc at *
              have v1 : IntKind.i64.wrap ((ri : Int) + (k : Int)) = ((ri + k : Nat) : Int) := by rw [show ((ri : Int) + (k : Int)) = ((ri + k : Nat) : Int) by simp]; exact IntWalk.i64_in _ (by omega)
              have v2 : IntKind.i64.wrap ((c : Int) + (kc : Int)) = ((kc + c : Nat) : Int) := by rw [show ((c : Int) + (kc : Int)) = ((kc + c : Nat) : Int) by simp; omega]; exact IntWalk.i64_in _ (by omega)
              have v2' : IntKind.i64.wrap ((kc : Int) + (c : Int)) = ((kc + c : Nat) : Int) := by rw [show ((kc : Int) + (c : Int)) = ((kc + c : Nat) : Int) by simp]; exact IntWalk.i64_in _ (by omega)
              generalize Wt.getD (ri + k) 0 = xw at cw HG
              generalize S.getD (kc + c) 0 = xs at cs HG
              generalize gsum Wt S bv inner cols r c k = acc at HG ⊢
              clear hri' hkc' hcw
              go_wp2
              go_quiet (fail)
              go_wp2
              exact ⟨⟨k + 1, hltk, by go_num, by rw [HG.out], _, rfl⟩, by simp [intOf]; omega⟩
            · obtain rfl : k = inner := by omega
              have HGA : Hid (gemmAt Wt Bi S k cols (r * cols + c) = gsum Wt S bv k cols r c k) := by
                unfold Hid gemmAt; rw [(rc_div hcc).1, (rc_div hcc).2, HBv.out]
              generalize gsum Wt S bv k cols r c k = acc at HGA ⊢
              generalize hrc' : r * cols = rc at *
              have v3 : IntKind.i64.wrap ((rc : Int) + (c : Int)) = ((rc + c : Nat) : Int) := by rw [show ((rc : Int) + (c : Int)) = ((rc + c : Nat) : Int) by simp]; exact IntWalk.i64_in _ (by omega)
              have HO2 := Lib.hid (HO.out.drewN nd)
              have HIH := HI
              have hcd := HCD.out
              have hfd := HFD.out
              go_wp2
              go_roundw
              case rel =>
                refine ⟨c + 1, by omega, hltc, by go_num, HO2.out.setCell _ _, ?_⟩
                unfold Hid
                subst hrc'
                rw [← updL_set hq0 (fun q _ => doneTo_step hr1 hlt hc1 hltc hb2 q), HGA.out]
                exact HI.out.set _ _
              case measure => simp [intOf]; omega
        · obtain rfl : c = c0 + nc := by omega
          have HO := Lib.hid hO
          clear hO
          go_wp2
          go_roundw
          case rel => exact ⟨r + 1, by omega, hlt, by go_num, HO.out, by unfold Hid; rw [← updL_congr (fun q _ => doneTo_row q)]; exact HI.out⟩
          case measure => simp [intOf]; omega
    · obtain rfl : r = r0 + nr := by omega
      have HO := Lib.hid hO
      clear hO
      go_wp2
      go_end0
      exact ⟨⟨_, rfl⟩, W, HBB.out, HO.out, by rw [← updL_congr (fun q _ => doneTo_end)]; exact HI.out⟩

end Go.Proofs.YthlmgejikbmmaaaGreat

/-
  Rounding a rational, half away from zero. No program in sight.
-/
namespace Go.Proofs.YthlmgejikbmmaaaGreat
open Go.RowKit

/-- The nearest natural number of the absolute value. -/
def roundN (q : Rat) : Nat := (q.num.natAbs * 2 + q.den) / (q.den * 2)
theorem mkRat_parts (z : Int) {d : Nat} (hd : d ≠ 0) : ∃ g : Nat, 0 < g ∧ z = (mkRat z d).num * (g : Int) ∧ d = (mkRat z d).den * g := by
  obtain ⟨m, hm, h1, h2⟩ := Rat.mkRat_num_den (n := z) (d := d) (n' := (mkRat z d).num) (d' := (mkRat z d).den) (z' := (mkRat z d).den_nz) (c := (mkRat z d).reduced) hd rfl
  exact ⟨m, Nat.pos_of_ne_zero hm, h1, h2⟩
theorem roundN_mkRat (z : Int) {d : Nat} (hd : 0 < d) : roundN (mkRat z d) = (z.natAbs * 2 + d) / (d * 2) := by
  obtain ⟨g, hg, h1, h2⟩ := mkRat_parts z (Nat.pos_iff_ne_zero.1 hd)
  unfold roundN
  generalize (mkRat z d).num = n at *
  generalize (mkRat z d).den = e at *
  have e1 : z.natAbs = n.natAbs * g := by rw [h1, Int.natAbs_mul]; rfl
  rw [e1, h2]
  have e2 : n.natAbs * g * 2 + e * g = (n.natAbs * 2 + e) * g := by rw [Nat.add_mul]; congr 1; rw [Nat.mul_assoc, Nat.mul_comm g 2, ← Nat.mul_assoc]
  have e3 : e * g * 2 = e * 2 * g := by rw [Nat.mul_assoc, Nat.mul_comm g 2, ← Nat.mul_assoc]
  rw [e2, e3, Nat.mul_div_mul_right _ _ hg]
/-- The floor of the absolute value and a half. -/
theorem floor_half (q : Rat) : (mkRat (q.num.natAbs : Int) q.den + 1 / 2).num / ((mkRat (q.num.natAbs : Int) q.den + 1 / 2).den : Int) = (roundN q : Int) := by
  have hd := q.den_pos
  have e0 : (1 / 2 : Rat) = mkRat 1 2 := by decide +kernel
  have e1 : mkRat (q.num.natAbs : Int) q.den + 1 / 2 = mkRat ((q.num.natAbs : Int) * 2 + 1 * q.den) (q.den * 2) := by
    rw [e0, Rat.mkRat_add_mkRat _ _ (by omega) (by decide)]
    rfl
  rw [e1]
  have e2 : ((q.num.natAbs : Int) * 2 + 1 * q.den) = ((q.num.natAbs * 2 + q.den : Nat) : Int) := by omega
  rw [e2]
  unfold roundN
  generalize q.num.natAbs * 2 + q.den = A at *
  have hB : 0 < q.den * 2 := by omega
  generalize q.den * 2 = B at *
  obtain ⟨g, hg, h1, h2⟩ := mkRat_parts (A : Int) (Nat.pos_iff_ne_zero.1 hB)
  generalize (mkRat (A : Int) B).num = n at *
  generalize (mkRat (A : Int) B).den = e at *
  have h3 : ((A / B : Nat) : Int) = (A : Int) / (B : Int) := by simp
  rw [h3, h1, h2, Int.natCast_mul, Int.mul_ediv_mul_of_pos_left _ _ (by omega)]

theorem scale_round (a m : Int) (s : Nat) : roundN (mkRat (a * m) (2 ^ s)) = scaleQ a m s := by
  rw [roundN_mkRat _ (Nat.two_pow_pos s), Int.natAbs_mul]
  unfold scaleQ
  generalize a.natAbs * m.natAbs = P
  by_cases h : s = 0
  · subst h
    simp
    omega
  · rw [if_neg h]
    obtain ⟨t, rfl⟩ : ∃ t, s = t + 1 := ⟨s - 1, by omega⟩
    have h1 := Nat.two_pow_pos t
    rw [Nat.add_sub_cancel, Nat.pow_succ]
    generalize 2 ^ t = T at *
    have e2 : P * 2 + T * 2 = (P + T) * 2 := by omega
    rw [e2, Nat.mul_div_mul_right _ _ (by omega)]

/-- What round hands back: the rounded number with its sign. -/
def roundZ (q : Rat) : Int := if q < 0 then -(roundN q : Int) else (roundN q : Int)
theorem mulpow (a m : Int) (s : Nat) : (a : Rat) * (m : Rat) / ((2 ^ s : Nat) : Rat) = mkRat (a * m) (2 ^ s) := by
  have h : ((2 ^ s : Nat) : Rat) = ((2 ^ s : Nat) : Int) := by simp
  rw [← Rat.intCast_mul, Rat.mkRat_eq_div]
theorem scale_sign (a m : Int) (s : Nat) : ((mkRat (a * m) (2 ^ s)) < 0) ↔ a * m < 0 := mkRat_neg_iff (Nat.two_pow_pos s)
theorem scaleQ_zero {a m : Int} {s : Nat} (h : a = 0 ∨ m = 0) : scaleQ a m s = 0 := by
  unfold scaleQ
  have h0 : a.natAbs * m.natAbs = 0 := by rcases h with rfl | rfl <;> simp
  rw [h0, Nat.zero_add]
  by_cases hs : s = 0
  · rw [if_pos hs]; simp
  · rw [if_neg hs]
    exact Nat.div_eq_of_lt (Nat.pow_lt_pow_right (by omega) (by omega))
/-- The saturated quotient, whatever way it is told. -/
def scaledL (a m : Int) (s : Nat) : Int := clamp32 (if scaleQ a m s ≤ 4611686018427387904 then (if a * m < 0 then -(scaleQ a m s : Int) else (scaleQ a m s : Int)) else if (a < 0) = (m < 0) then 2147483647 else -2147483648)
theorem scaled_eq (a m : Int) (s : Nat) : scaledL a m s = scaleL a m s := by
  unfold scaledL scaleL
  have hcl : ∀ x : Int, 2147483647 ≤ x → clamp32 x = 2147483647 := fun x hx => by unfold clamp32; omega
  have hcm : ∀ x : Int, x ≤ -2147483648 → clamp32 x = -2147483648 := fun x hx => by unfold clamp32; omega
  by_cases hz : a = 0 ∨ m = 0
  · rw [scaleQ_zero hz]
    simp
  · have ha : a ≠ 0 := fun h => hz (.inl h)
    have hm : m ≠ 0 := fun h => hz (.inr h)
    have hs : (a * m < 0) ↔ ¬ ((a < 0) = (m < 0)) := by
      rw [eq_iff_iff]
      rcases Int.lt_or_gt_of_ne ha with h1 | h1 <;> rcases Int.lt_or_gt_of_ne hm with h2 | h2
      · have := Int.mul_pos_of_neg_of_neg h1 h2
        constructor
        · intro h; omega
        · intro h; exact absurd ⟨fun _ => h2, fun _ => h1⟩ h
      · have := Int.mul_neg_of_neg_of_pos h1 h2
        exact ⟨fun _ h => by have := h.1 h1; omega, fun _ => this⟩
      · have := Int.mul_neg_of_pos_of_neg h1 h2
        exact ⟨fun _ h => by have := h.2 h2; omega, fun _ => this⟩
      · have := Int.mul_pos h1 h2
        constructor
        · intro h; omega
        · intro h; exact absurd ⟨fun h => by omega, fun h => by omega⟩ h
    by_cases hc : (a < 0) = (m < 0)
    · rw [if_pos hc, if_neg (fun h => hs.1 h hc), if_pos hc]
      split
      · rfl
      · rw [hcl _ (by omega), hcl _ (by omega)]
    · rw [if_neg hc, if_pos (hs.2 hc), if_neg hc]
      split
      · rfl
      · rw [hcm _ (by omega), hcm _ (by omega)]

end Go.Proofs.YthlmgejikbmmaaaGreat

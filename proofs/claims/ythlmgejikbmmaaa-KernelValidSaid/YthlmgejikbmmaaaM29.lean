/-
  Contracts of the functions that the statements reach, in the order in which they are built: RatQ, RatR.
-/
import Derived.Test.YthlmgejikbmmaaaM7
set_option linter.unusedVariables false
set_option linter.unusedSimpArgs false
set_option linter.constructorNameAsVariable false
set_option linter.deprecated false

/-
  The canonical fields of a rational number, and what the operations on fields are on numbers. No Go in sight.
-/
namespace Go.Proofs.Ythlmgejikbmmaaa

/-- The number for which three fields stand. -/
def ratOf (x : RatL) : Rat := mkRat (sgn x.neg (lval x.num)) (underN x.den)
/-- The canonical fields of a number. -/
def ratL (q : Rat) : RatL := ⟨decide (q.num < 0), limbs q.num.natAbs, if q.den = 1 then [] else limbs q.den⟩

theorem sgn_natAbs (neg : Bool) (n : Nat) : (sgn neg n).natAbs = n := by cases neg <;> simp [sgn]
theorem quotN_ratL (neg : Bool) (n : Nat) {d : Nat} (hd : 0 < d) : quotN neg n d = ratL (mkRat (sgn neg n) d) := by
  have hg : 0 < Nat.gcd n d := Nat.gcd_pos_of_pos_right _ hd
  obtain ⟨k, hk⟩ := Nat.gcd_dvd_left n d
  rw [Rat.mkRat_def, dif_neg (by omega), Rat.normalize_eq]
  unfold quotN ratL
  simp only [sgn_natAbs]
  have e : sgn neg n / ((Nat.gcd n d : Nat) : Int) = sgn neg (n / Nat.gcd n d) := by
    generalize Nat.gcd n d = g at *
    subst hk
    rw [Nat.mul_div_cancel_left _ hg]
    cases neg
    · simp only [sgn]; simp; rw [Int.mul_ediv_cancel_left _ (by omega)]
    · simp only [sgn]; simp; rw [← Int.mul_neg, Int.mul_ediv_cancel_left _ (by omega)]
  rw [e, sgn_natAbs]
  congr 1
  have h0 : n = 0 ↔ n / Nat.gcd n d = 0 := by
    constructor
    · rintro rfl; simp
    · intro h
      generalize Nat.gcd n d = g at *
      subst hk
      rw [Nat.mul_div_cancel_left _ hg] at h
      rw [h, Nat.mul_zero]
  generalize n / Nat.gcd n d = q at *
  by_cases hn : n = 0
  · rw [h0.1 hn]; cases neg <;> simp [sgn, hn]
  · have hq : q ≠ 0 := fun h => hn (h0.2 h)
    cases neg
    · simp [sgn]
    · simp [sgn, hn]; omega
theorem canonL_ratL (x : RatL) : canonL x = ratL (ratOf x) := quotN_ratL _ _ (underN_pos _)
theorem ratL_lim (q : Rat) : (ratL q).Lim := by
  refine ⟨lim_limbs _, ?_⟩
  unfold ratL
  dsimp only
  split
  · intro d hd; simp at hd
  · exact lim_limbs _
theorem underN_ratL (q : Rat) : underN (ratL q).den = q.den := by
  unfold ratL underN
  dsimp only
  have := q.den_nz
  by_cases h : q.den = 1
  · rw [if_pos h, lval_nil, if_pos rfl, h]
  · rw [if_neg h, lval_limbs, if_neg this]
theorem sgn_ratL (q : Rat) : sgn (ratL q).neg (lval (ratL q).num) = q.num := by
  unfold ratL sgn
  dsimp only
  rw [lval_limbs]
  by_cases h : q.num < 0
  · rw [decide_eq_true h]; simp; omega
  · rw [decide_eq_false h]; simp; omega
theorem ratOf_ratL (q : Rat) : ratOf (ratL q) = q := by
  unfold ratOf; rw [underN_ratL, sgn_ratL, Rat.mkRat_self]
theorem ratL_inj {p q : Rat} (h : ratL p = ratL q) : p = q := by rw [← ratOf_ratL p, h, ratOf_ratL]
theorem valid_ratL (q : Rat) : ratL q = canonL (ratL q) := by rw [canonL_ratL, ratOf_ratL]
theorem neg_ratL (q : Rat) : (ratL q).neg = decide (q < 0) := by
  unfold ratL
  dsimp only
  rw [decide_eq_decide]
  have := @Rat.num_nonneg q
  rw [← Rat.not_le, ← this]
  omega

theorem sgn_mul (a b : Bool) (n m : Nat) : sgn (a != b) (n * m) = sgn a n * sgn b m := by
  cases a <;> cases b <;> simp [sgn, Int.neg_mul, Int.mul_neg]
theorem mulQ (a b : Bool) (n m d e : Nat) : mkRat (sgn (a != b) (n * m)) (d * e) = mkRat (sgn a n) d * mkRat (sgn b m) e := by
  rw [sgn_mul, Rat.mkRat_mul_mkRat]
theorem addQ (a b : Bool) (n m : Nat) {d e : Nat} (hd : 0 < d) (he : 0 < e) : mkRat (sgn a (n * e) + sgn b (m * d)) (d * e) = mkRat (sgn a n) d + mkRat (sgn b m) e := by
  rw [Rat.mkRat_add_mkRat _ _ (by omega) (by omega)]
  congr 1
  cases a <;> cases b <;> simp [sgn, Int.neg_mul]
theorem inv_mkRat' (b : Bool) (m e : Nat) : (mkRat (sgn b m) e)⁻¹ = mkRat (sgn b e) m := by
  rw [Rat.mkRat_eq_div, Rat.mkRat_eq_div, Rat.div_def, Rat.div_def, Rat.inv_mul_rev, Rat.inv_inv]
  cases b
  · rfl
  · have h : (-((m : Int) : Rat))⁻¹ = -((m : Int) : Rat)⁻¹ := by grind
    simp only [sgn, if_true, Rat.intCast_neg, h, Rat.mul_neg, Rat.neg_mul]
    rfl
theorem divQ (a b : Bool) (n m d e : Nat) : mkRat (sgn (a != b) (n * e)) (d * m) = mkRat (sgn a n) d / mkRat (sgn b m) e := by
  rw [Rat.div_def, inv_mkRat' b m e, sgn_mul, Rat.mkRat_mul_mkRat]
theorem sgn_not (a : Bool) (n : Nat) : sgn (!a) n = -sgn a n := by cases a <;> simp [sgn]
theorem negQ (a : Bool) (n d : Nat) : mkRat (sgn (!a) n) d = -mkRat (sgn a n) d := by rw [sgn_not, Rat.neg_mkRat]

/-- The sign of a number. -/
def signQ (q : Rat) : Int := if q < 0 then -1 else if 0 < q then 1 else 0
theorem mkRat_pos_iff {z : Int} {d : Nat} (hd : 0 < d) : 0 < mkRat z d ↔ 0 < z := by
  rw [Rat.mkRat_eq_div]
  have h : (0 : Rat) < (d : Rat) := by exact_mod_cast hd
  rw [Rat.lt_div_iff h, Rat.zero_mul]
  exact Rat.intCast_lt_intCast (a := 0)
theorem mkRat_neg_iff {z : Int} {d : Nat} (hd : 0 < d) : mkRat z d < 0 ↔ z < 0 := by
  rw [Rat.mkRat_eq_div]
  have h : (0 : Rat) < (d : Rat) := by exact_mod_cast hd
  rw [Rat.div_lt_iff h, Rat.zero_mul]
  exact Rat.intCast_lt_intCast (b := 0)
theorem signZ_signQ (x : RatL) : signZ x.neg (lval x.num) = signQ (ratOf x) := by
  unfold signQ ratOf
  simp only [mkRat_neg_iff (underN_pos _), mkRat_pos_iff (underN_pos _)]
  unfold signZ sgn
  cases x.neg <;> by_cases h : lval x.num = 0 <;> simp [h] <;> omega
theorem signQ_le (q : Rat) : signQ q ≤ 0 ↔ q ≤ 0 := by
  unfold signQ
  by_cases h1 : q < 0
  · rw [if_pos h1]; simp; exact Rat.le_of_lt h1
  · rw [if_neg h1]
    by_cases h2 : 0 < q
    · rw [if_pos h2]; simp; exact Rat.not_le.2 h2
    · rw [if_neg h2]; simp; exact Rat.not_lt.1 h2
/-- What Cmp says. -/
def cmpQ (p q : Rat) : Int := if p < q then -1 else if q < p then 1 else 0
theorem signQ_sub (p q : Rat) : signQ (p - q) = cmpQ p q := by
  unfold signQ cmpQ
  have h1 : p - q < 0 ↔ p < q := by grind
  have h2 : 0 < p - q ↔ q < p := by grind
  simp only [h1, h2]

end Go.Proofs.Ythlmgejikbmmaaa

/-
  How long the limbs of a rational number are, through the operations. No Go in sight.
-/
namespace Go.Proofs.Ythlmgejikbmmaaa

/-- Both lists of limbs are short. -/
structure RatLe (x : RatL) (k : Nat) : Prop where
  num : x.num.length ≤ k
  den : x.den.length ≤ k
/-- Numerator and denominator have at most k limbs. -/
structure QLe (q : Rat) (k : Nat) : Prop where
  num : q.num.natAbs < 4294967296 ^ k
  den : q.den < 4294967296 ^ k
theorem QLe.mono {q : Rat} {k m : Nat} (h : QLe q k) (hm : k ≤ m) : QLe q m :=
  ⟨Nat.lt_of_lt_of_le h.num (Nat.pow_le_pow_right (by omega) hm), Nat.lt_of_lt_of_le h.den (Nat.pow_le_pow_right (by omega) hm)⟩
theorem RatLe.mono {x : RatL} {k m : Nat} (h : RatLe x k) (hm : k ≤ m) : RatLe x m := ⟨Nat.le_trans h.num hm, Nat.le_trans h.den hm⟩
theorem QLe.mk' {z : Int} {d k : Nat} (h1 : z.natAbs < 4294967296 ^ k) (h2 : d < 4294967296 ^ k) (hd : 0 < d) : QLe (mkRat z d) k := by
  rw [Rat.mkRat_def, dif_neg (by omega), Rat.normalize_eq]
  refine ⟨Nat.lt_of_le_of_lt ?_ h1, Nat.lt_of_le_of_lt (Nat.div_le_self _ _) h2⟩
  rw [Int.natAbs_ediv_of_dvd (Int.ofNat_dvd_left.2 (Nat.gcd_dvd_left _ _))]
  exact Nat.div_le_self _ _
theorem QLe.ratL {q : Rat} {k : Nat} (h : QLe q k) : RatLe (ratL q) k := by
  refine ⟨limbs_len_le h.num, ?_⟩
  show (if q.den = 1 then [] else limbs q.den).length ≤ k
  split
  · simp
  · exact limbs_len_le h.den
theorem underN_lt {d : List Nat} {k : Nat} (hl : Lim d) (h : d.length ≤ k) : underN d < 4294967296 ^ (k + 1) := by
  have h1 := Nat.lt_of_lt_of_le (lval_lt hl) (Nat.pow_le_pow_right (show 0 < 4294967296 by omega) (show d.length ≤ k + 1 by omega))
  have h2 : 4294967296 ^ 1 ≤ 4294967296 ^ (k + 1) := Nat.pow_le_pow_right (by omega) (by omega)
  unfold underN
  split
  · omega
  · exact h1
theorem QLe.ratOf {x : RatL} {k : Nat} (hx : x.Lim) (h : RatLe x k) : QLe (ratOf x) (k + 1) := by
  refine QLe.mk' ?_ (underN_lt hx.2 h.den) (underN_pos _)
  rw [sgn_natAbs]
  exact Nat.lt_of_lt_of_le (lval_lt hx.1) (Nat.pow_le_pow_right (by omega) (Nat.le_succ_of_le h.num))
theorem QLe.neg {q : Rat} {k : Nat} (h : QLe q k) : QLe (-q) k := ⟨by rw [Rat.neg_num, Int.natAbs_neg]; exact h.num, by rw [Rat.neg_den]; exact h.den⟩
theorem QLe.mul {p q : Rat} {a b : Nat} (hp : QLe p a) (hq : QLe q b) : QLe (p * q) (a + b) := by
  rw [← Rat.mkRat_self p, ← Rat.mkRat_self q, Rat.mkRat_mul_mkRat]
  refine QLe.mk' ?_ ?_ (Nat.mul_pos p.den_pos q.den_pos)
  · rw [Int.natAbs_mul, Nat.pow_add]; exact Nat.mul_lt_mul'' hp.num hq.num
  · rw [Nat.pow_add]; exact Nat.mul_lt_mul'' hp.den hq.den
theorem QLe.add {p q : Rat} {a b : Nat} (hp : QLe p a) (hq : QLe q b) : QLe (p + q) (a + b + 1) := by
  rw [← Rat.mkRat_self p, ← Rat.mkRat_self q, Rat.mkRat_add_mkRat _ _ p.den_nz q.den_nz]
  have h1 : (p.num * (q.den : Int)).natAbs < 4294967296 ^ a * 4294967296 ^ b := by
    rw [Int.natAbs_mul, Int.natAbs_natCast]; exact Nat.mul_lt_mul'' hp.num hq.den
  have h2 : (q.num * (p.den : Int)).natAbs < 4294967296 ^ a * 4294967296 ^ b := by
    rw [Int.natAbs_mul, Int.natAbs_natCast, Nat.mul_comm (4294967296 ^ a)]; exact Nat.mul_lt_mul'' hq.num hp.den
  refine QLe.mk' ?_ ?_ (Nat.mul_pos p.den_pos q.den_pos)
  · have h3 := Int.natAbs_add_le (p.num * (q.den : Int)) (q.num * (p.den : Int))
    rw [Nat.pow_succ, Nat.pow_add]
    omega
  · have h3 := Nat.mul_lt_mul'' hp.den hq.den
    rw [Nat.pow_succ, Nat.pow_add]
    omega
theorem QLe.sub {p q : Rat} {a b : Nat} (hp : QLe p a) (hq : QLe q b) : QLe (p - q) (a + b + 1) := by
  rw [Rat.sub_eq_add_neg]; exact hp.add hq.neg
theorem QLe.inv {q : Rat} {k : Nat} (h : QLe q k) : QLe q⁻¹ k := by
  by_cases h0 : q = 0
  · subst h0; rw [Rat.inv_zero]; exact h
  · have hn : q.num ≠ 0 := fun e => h0 (Rat.num_eq_zero.1 e)
    have e : q⁻¹ = mkRat (sgn (decide (q.num < 0)) q.den) q.num.natAbs := by
      have h1 : q = mkRat (sgn (decide (q.num < 0)) q.num.natAbs) q.den := by
        have : sgn (decide (q.num < 0)) q.num.natAbs = q.num := by
          unfold sgn
          by_cases h : q.num < 0
          · rw [decide_eq_true h]; simp; omega
          · rw [decide_eq_false h]; simp; omega
        rw [this, Rat.mkRat_self]
      conv => lhs; rw [h1]
      rw [inv_mkRat']
    rw [e]
    exact QLe.mk' (by rw [sgn_natAbs]; exact h.den) h.num (by omega)
theorem QLe.div {p q : Rat} {a b : Nat} (hp : QLe p a) (hq : QLe q b) : QLe (p / q) (a + b) := by
  rw [Rat.div_def]; exact hp.mul hq.inv

end Go.Proofs.Ythlmgejikbmmaaa

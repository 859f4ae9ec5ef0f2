/-
  Contracts of the functions that the statements reach, in the order in which they are built: RKF, RKH, RKK, RKL, RKN.
-/
import Derived.Test.YthlmgejikbmmaaaGreatM24
import Derived.Test.YthlmgejikbmmaaaGreatM11
import Derived.Test.YthlmgejikbmmaaaGreatM16
import Derived.Test.YthlmgejikbmmaaaGreatM20
import Derived.Test.YthlmgejikbmmaaaGreatM21
import Derived.Test.YthlmgejikbmmaaaGreatM4
import Derived.Test.YthlmgejikbmmaaaGreatM22
set_option linter.unusedVariables false
set_option linter.unusedSimpArgs false
set_option linter.constructorNameAsVariable false
set_option linter.deprecated false

/-
  The reference of layer 51: round, result, Scale; Scaled of layer 54: by contract.
-/
namespace Go.Proofs.YthlmgejikbmmaaaGreat
open Go.RowKit

/-- The absolute value of a canonical number, and a half. -/
def absQ (q : Rat) : Rat := mkRat (q.num.natAbs : Int) q.den
theorem abs_ratL (q : Rat) : ratOf ⟨false, (ratL q).num, (ratL q).den⟩ = absQ q := by
  unfold ratOf absQ
  simp only [underN_ratL]
  have : lval (ratL q).num = q.num.natAbs := by unfold ratL; exact lval_limbs _
  rw [this]
  rfl
theorem round_le {q : Rat} (h : QLe q 8) : roundN q < 4294967296 ^ 9 := by
  have h1 := h.num
  have h2 := h.den
  unfold roundN
  refine Nat.lt_of_le_of_lt (Nat.div_le_self _ _) ?_
  have : (4294967296 : Nat) ^ 9 = 4294967296 ^ 8 * 4294967296 := Nat.pow_succ _ _
  omega
theorem round_pow {q : Rat} : (0 < cmpQ ((roundN q : Int) : Rat) (pw 62)) ↔ ¬ roundN q ≤ 4611686018427387904 := by
  rw [cmpQ_pos]
  unfold pw
  rw [Rat.intCast_lt_intCast]
  omega
theorem sign_round {q : Rat} : (signQ q < 0) ↔ q < 0 := by
  unfold signQ
  by_cases h : q < 0
  · simp [h]
  · simp only [h, if_false]
    split <;> simp
theorem absQ_le {q : Rat} (h : QLe q 8) : RatLe ⟨false, (ratL q).num, (ratL q).den⟩ 8 := ⟨h.ratL.num, h.ratL.den⟩
theorem half_le : RatLe (ratL (1 / 2)) 8 := QLe.ratL ⟨by decide +kernel, by decide +kernel⟩

theorem half_eq : ((1 : Int) : Rat) / ((2 : Int) : Rat) = 1 / 2 := by decide +kernel
theorem absQ_QLe {q : Rat} (h : QLe q 8) : QLe (absQ q) 9 := by
  have := QLe.ratOf (x := ⟨false, (ratL q).num, (ratL q).den⟩) ⟨(ratL_lim q).1, (ratL_lim q).2⟩ (absQ_le h)
  rwa [abs_ratL] at this
theorem int_le {z : Int} {k : Nat} (h : z.natAbs < 4294967296 ^ k) : RatLe (ratL (z : Rat)) k := by
  rw [ratL_int]
  exact ⟨limbs_len_le h, by simp⟩
theorem sum_le {q : Rat} (h : QLe q 8) : RatLe (ratL (absQ q + 1 / 2)) 12 :=
  ((absQ_QLe h).add (show QLe (1 / 2) 2 from ⟨by decide +kernel, by decide +kernel⟩)).ratL

set_option maxRecDepth 100000 in
set_option maxHeartbeats 3200000 in
theorem x51round {w : World} {v : Value} {q : Rat} (hv : RatV w v (ratL q)) (hq : QLe q 8) :
    Calls Tryz.prog 74 #[v] w fun e w' => e = .returned (.tuple #[.int .i64 (if roundN q ≤ 4611686018427387904 then roundZ q else 0), .bool (decide (roundN q ≤ 4611686018427387904))]) ∧ Below w.heap.size w w' := by
  have HV := Lib.hid hv
  generalize hA : (if roundN q ≤ 4611686018427387904 then roundZ q else 0) = A
  generalize hBb : decide (roundN q ≤ 4611686018427387904) = B
  have HA := Lib.hid hA
  have HBb := Lib.hid hBb
  obtain ⟨an, ad, cn, cd, rfl, a2, a3, a4, a5⟩ := hv.ex
  have hl1 := a4.len
  have hl2 := a5.len
  have A4 := Lib.hid a4
  have A5 := Lib.hid a5
  have HQ := Lib.hid hq
  have HAb := Lib.hid (abs_ratL q)
  have HAl := Lib.hid (absQ_le hq)
  have HS : Hid (signQ (ratOf (ratL q)) = signQ q) := by unfold Hid; rw [ratOf_ratL]
  have hln : (ratL q).num.length ≤ 17592186044416 := Nat.le_trans hq.ratL.num (by omega)
  have HLn := Lib.hid hln
  generalize ratL q = y at *
  clear hv a4 a5 hq hln hA hBb
  go_enter Tryz.func74, Tryz.ntmps74
  go_upto_region 3 with fail
  have hF := TwoB.mk' w (.bool y.neg) (.slice an y.num.length cn) (.slice ad y.den.length cd) (.bool false) (.slice an y.num.length cn) (.slice ad y.den.length cd) 44
  generalize (w.alloc (.cells #[.bool y.neg, .slice an y.num.length cn, .slice ad y.den.length cd] 44)).alloc (.cells #[.bool false, .slice an y.num.length cn, .slice ad y.den.length cd] 44) = W at *
  have HF := Lib.hid hF
  have HVy := Lib.hid (HV.out.below hF.bl)
  have HVa : Hid (RatV W (.agg #[.bool false, .slice an y.num.length cn, .slice ad y.den.length cd]) ⟨false, y.num, y.den⟩) := ⟨an, ad, cn, cd, rfl, a2, a3, A4.out.below hF.bl, A5.out.below hF.bl⟩
  have hFr := r3Frac W 1 2 (by omega) (by omega) (by omega) (by omega) (by omega)
  rw [half_eq] at hFr
  have HFr := Lib.hid hFr
  have HHl := Lib.hid half_le
  have HHr : Hid (ratOf (ratL (1 / 2)) = 1 / 2) := ratOf_ratL _
  generalize ratL (1 / 2) = hh at *
  clear hF HV A4 A5 hFr
  go_wp2_with fail
  refine HFr.out.mono ?_
  rintro e w1 ⟨v1, rfl, ⟨hn, hd, c1, c2, rfl, g1, g2, g3, g4⟩, hb1⟩
  go_upto_region 4 with fail
  have hal : Below w1.heap.size w1 (w1.alloc (.cells #[.bool hh.neg, .slice hn hh.num.length c1, .slice hd hh.den.length c2] 44)) := (Below.refl _ _).alloc (Nat.le_refl _) _
  have HX1 := Lib.hid ((HF.out.a.below hb1).below hal)
  have hA1 := (HF.out.b.below hb1).below hal
  have HVy1 := Lib.hid ((HVy.out.below hb1).below hal)
  have hVa1 := (HVa.out.below hb1).below hal
  have hVh : RatV (w1.alloc (.cells #[.bool hh.neg, .slice hn hh.num.length c1, .slice hd hh.den.length c2] 44)) (.agg #[.bool hh.neg, .slice hn hh.num.length c1, .slice hd hh.den.length c2]) hh := ⟨hn, hd, c1, c2, rfl, g1, g2, g3.below hal, g4.below hal⟩
  have hb2 := hb1.trans (hal.mono hb1.size)
  have HB1 := Lib.hid (HF.out.bl.trans (hb2.mono (by have := HF.out.a.lt; omega)))
  have hAd := r3Add hVa1 hVh (HAl.out.mono (by omega)) (HHl.out.mono (by omega))
  rw [HAb.out, HHr.out] at hAd
  have HAd := Lib.hid hAd
  obtain ⟨p0, p1, p2, pf, plt⟩ := hA1
  obtain ⟨q0, q1, q2, qf, qlt⟩ := Box3.alloc w1 (.bool hh.neg) (.slice hn hh.num.length c1) (.slice hd hh.den.length c2) 44
  clear hal hb1 hb2 g3 g4 hVa1 hVh hAd HFr HF HVy HVa
  generalize w1.alloc (.cells #[.bool hh.neg, .slice hn hh.num.length c1, .slice hd hh.den.length c2] 44) = W1 at *
  go_wp2_with fail
  refine HAd.out.mono ?_
  rintro e w2 ⟨v2, rfl, g5, hb2⟩
  have hFl := r3Floor g5 (show RatLe (ratL (absQ q + 1 / 2)) 1048576 from (sum_le HQ.out).mono (by omega))
  rw [ratOf_ratL, absQ, floor_half] at hFl
  obtain ⟨z, hz⟩ : ∃ z : Int, z = (roundN q : Int) := ⟨_, rfl⟩
  rw [← hz] at hFl
  have HZ := Lib.hid hz
  clear hz
  have HFl := Lib.hid hFl
  have HX2 := Lib.hid (HX1.out.below hb2)
  have HVy2 := Lib.hid (HVy1.out.below hb2)
  have HB2 := Lib.hid (HB1.out.trans (hb2.mono HB1.out.size))
  clear hFl g5 hb2 HAd HX1 HVy1 HB1 p0 p1 p2 pf plt q0 q1 q2 qf qlt
  go_wp2_with fail
  refine HFl.out.mono ?_
  rintro e w3 ⟨v3, rfl, ⟨a3, c3, rfl, k1, k2⟩, hb3⟩
  go_upto_region 5 with fail
  have hal : Below w3.heap.size w3 (w3.alloc (.cells #[.bool (decide (z < 0)), .slice a3 (limbs z.natAbs).length c3] 71)) := (Below.refl _ _).alloc (Nat.le_refl _) _
  have hb4 := hb3.trans (hal.mono hb3.size)
  have hI4 : IntC (w3.alloc (.cells #[.bool (decide (z < 0)), .slice a3 (limbs z.natAbs).length c3] 71)) (.agg #[.bool (decide (z < 0)), .slice a3 (limbs z.natAbs).length c3]) z := ⟨a3, c3, rfl, k1, k2.below hal⟩
  have HB4 := Lib.hid (HB2.out.trans (hb4.mono HB2.out.size))
  have HX4 := Lib.hid (HX2.out.below hb4)
  have HVy4 := Lib.hid (HVy2.out.below hb4)
  have HN4 := Lib.hid (Box2.alloc w3 (.bool (decide (z < 0))) (.slice a3 (limbs z.natAbs).length c3) 71)
  clear k2 hb3 HFl HX2 HVy2 HB2 hal hb4
  generalize w3.alloc (.cells #[.bool (decide (z < 0)), .slice a3 (limbs z.natAbs).length c3] 71) = W4 at *
  have hrl : (limbs z.natAbs).length ≤ 9 := limbs_len_le (by rw [HZ.out, Int.natAbs_natCast]; exact round_le HQ.out)
  have HI4 := Lib.hid hI4
  have hWh := r3Whole hI4.v (by omega)
  rw [sgn_of_int] at hWh
  have HWh := Lib.hid hWh
  obtain ⟨n0, n1, nf, nlt⟩ := HN4.out
  clear hI4 hWh
  go_wp2_with fail
  refine HWh.out.mono ?_
  rintro e w5 ⟨v5, rfl, g5, hb5⟩
  have hPw : Calls Tryz.prog 55 #[.int .i64 62] w5 (RetR w5 (ratL (pw 62))) := x51Power w5 62 (by omega)
  have HPw := Lib.hid hPw
  have HG5 := Lib.hid g5
  have HX5 := Lib.hid (HX4.out.below hb5)
  have HVy5 := Lib.hid (HVy4.out.below hb5)
  have HN5 := Lib.hid (HN4.out.below hb5)
  have HI5 := Lib.hid (HI4.out.below hb5)
  have HB5 := Lib.hid (HB4.out.trans (hb5.mono HB4.out.size))
  clear hPw g5 hb5 HX4 HVy4 HN4 HI4 HB4 HWh n0 n1 nf nlt
  go_wp2_with fail
  refine HPw.out.mono ?_
  rintro e w6 ⟨v6, rfl, g6, hb6⟩
  have hCm := r3Cmp (HG5.out.below hb6) g6 (show RatLe (ratL (z : Rat)) 524286 from (int_le (by rw [HZ.out, Int.natAbs_natCast]; exact round_le HQ.out)).mono (by omega)) ((pw_le (n := 62) (by omega)).mono (by omega))
  rw [ratOf_ratL, ratOf_ratL] at hCm
  have HCm := Lib.hid hCm
  have HX6 := Lib.hid (HX5.out.below hb6)
  have HVy6 := Lib.hid (HVy5.out.below hb6)
  have HN6 := Lib.hid (HN5.out.below hb6)
  have HI6 := Lib.hid (HI5.out.below hb6)
  have HB6 := Lib.hid (HB5.out.trans (hb6.mono HB5.out.size))
  clear hCm g6 hb6 HX5 HVy5 HN5 HI5 HB5 HPw HG5
  go_wp2_with fail
  refine HCm.out.mono ?_
  rintro e w7 ⟨rfl, hb7⟩
  have HX7 := Lib.hid (HX6.out.below hb7)
  have HVy7 := Lib.hid (HVy6.out.below hb7)
  have HN7 := Lib.hid (HN6.out.below hb7)
  have HI7 := Lib.hid (HI6.out.below hb7)
  have HB7 := Lib.hid (HB6.out.trans (hb7.mono HB6.out.size))
  clear hb7 HX6 HVy6 HN6 HI6 HB6 HCm
  by_cases hle : roundN q ≤ 4611686018427387904
  · have d1 : decide (0 < cmpQ (z : Rat) (pw 62)) = false := decide_eq_false (fun h => by rw [HZ.out] at h; exact round_pow.1 h hle)
    obtain rfl : B = true := by rw [← HBb.out]; exact decide_eq_true hle
    have HRd : Hid (A = if q < 0 then -z else z) := by
      unfold Hid
      rw [← HA.out, if_pos hle, HZ.out]
      rfl
    have HC := Lib.hid (r2Int HI7.out (by have := HZ.out; omega) (by have := HZ.out; omega))
    have hz1 : 0 ≤ z ∧ z ≤ 4611686018427387904 := by have := HZ.out; omega
    generalize cmpQ (z : Rat) (pw 62) = cq at *
    obtain ⟨n0, n1, nf, nlt⟩ := HN7.out
    clear hle HA HBb HZ
    go_wp2_with fail
    refine HC.out.mono ?_
    rintro e w8 ⟨rfl, hb8⟩
    have hSg := r3Sign (HVy7.out.below hb8) HLn.out
    rw [HS.out] at hSg
    have HSg := Lib.hid hSg
    obtain ⟨x0, x1, x2, xf, xlt⟩ := HX7.out.below hb8
    have HB8 := Lib.hid (HB7.out.trans (hb8.mono HB7.out.size))
    clear hSg HC HX7 HVy7 HN7 HI7 HB7 hb8 n0 n1 nf nlt
    go_wp2_with fail
    refine HSg.out.mono ?_
    rintro e w9 ⟨rfl, hb9⟩
    have HB9 := Lib.hid (HB8.out.trans (hb9.mono HB8.out.size))
    clear HSg hb9 x0 x1 x2 xf xlt
    by_cases hq : q < 0
    · have d2 : decide (signQ q < 0) = true := decide_eq_true (sign_round.2 hq)
      have HR2 : Hid (A = -z) := by unfold Hid; rw [HRd.out, if_pos hq]
      clear hq HRd
      generalize signQ q = sq at *
      go_wp2
      go_ret2
      exact ⟨by rw [HR2.out]; rfl, HB9.out⟩
    · have d2 : decide (signQ q < 0) = false := decide_eq_false (fun h => hq (sign_round.1 h))
      have HR2 : Hid (A = z) := by unfold Hid; rw [HRd.out, if_neg hq]
      clear hq HRd
      generalize signQ q = sq at *
      go_wp2
      go_ret2
      exact ⟨by rw [HR2.out]; rfl, HB9.out⟩
  · have d1 : decide (0 < cmpQ (z : Rat) (pw 62)) = true := decide_eq_true (by rw [HZ.out]; exact round_pow.2 hle)
    obtain rfl : B = false := by rw [← HBb.out]; exact decide_eq_false hle
    have HR2 : Hid (A = 0) := by unfold Hid; rw [← HA.out, if_neg hle]
    generalize cmpQ (z : Rat) (pw 62) = cq at *
    go_wp2
    go_ret2
    exact ⟨by rw [HR2.out]; rfl, HB7.out⟩

set_option maxRecDepth 100000 in
set_option maxHeartbeats 1600000 in
theorem x51result {w : World} {v : Value} {q : Rat} (hv : RatV w v (ratL q)) (hq : QLe q 8) :
    Calls Tryz.prog 56 #[v] w fun e w' => e = .returned (.tuple #[.int .i64 (if roundN q ≤ 4611686018427387904 then roundZ q else 0), .int .i64 (if roundN q ≤ 4611686018427387904 then 0 else 2)]) ∧ Below w.heap.size w w' := by
  have HR0 := Lib.hid (fun (W : World) (hb : Below w.heap.size w W) => x51round (hv.below hb) hq)
  obtain ⟨an, ad, cn, cd, rfl, a2, a3, a4, a5⟩ := hv.ex
  have hl1 := a4.len
  have hl2 := a5.len
  have hAB : ∃ A B C, (if roundN q ≤ 4611686018427387904 then roundZ q else 0) = A ∧ decide (roundN q ≤ 4611686018427387904) = B ∧ (if roundN q ≤ 4611686018427387904 then (0 : Int) else 2) = C ∧ ((B = true ∧ C = 0) ∨ (B = false ∧ A = 0 ∧ C = 2)) := by
    refine ⟨_, _, _, rfl, rfl, rfl, ?_⟩
    by_cases h : roundN q ≤ 4611686018427387904
    · exact .inl ⟨decide_eq_true h, if_pos h⟩
    · exact .inr ⟨decide_eq_false h, if_neg h, if_neg h⟩
  obtain ⟨A, B, C, e1, e2, e3, hAB⟩ := hAB
  rw [e1, e2] at HR0
  rw [e1, e3]
  generalize ratL q = y at *
  clear hv a4 a5 hq e1 e2 e3
  go_enter Tryz.func56, Tryz.ntmps56
  go_upto_region 1 with fail
  have hX := Box3.alloc w (.bool y.neg) (.slice an y.num.length cn) (.slice ad y.den.length cd) 44
  have hb : Below w.heap.size w (w.alloc (.cells #[.bool y.neg, .slice an y.num.length cn, .slice ad y.den.length cd] 44)) := (Below.refl _ _).alloc (Nat.le_refl _) _
  generalize w.alloc (.cells #[.bool y.neg, .slice an y.num.length cn, .slice ad y.den.length cd] 44) = W at *
  have HR := Lib.hid (HR0.out W hb)
  have HB := Lib.hid hb
  obtain ⟨x0, x1, x2, xf, xlt⟩ := hX
  clear hb HR0
  go_wp2_with fail
  refine HR.out.mono ?_
  rintro e w1 ⟨rfl, hb1⟩
  have HB1 := Lib.hid (HB.out.trans (hb1.mono HB.out.size))
  clear hb1 HR x0 x1 x2 xf xlt
  rcases hAB with ⟨rfl, rfl⟩ | ⟨rfl, rfl, rfl⟩
  · go_wp2
    go_ret2
    exact ⟨rfl, HB1.out⟩
  · go_wp2
    go_ret2
    exact ⟨rfl, HB1.out⟩

/-- The quotient that Scale rounds. -/
def scl (a m : Int) (s : Nat) : Rat := mkRat (a * m) (2 ^ s)
theorem scl_le {a m : Int} {s : Nat} (ha : I64 a) (hm : I64 m) (hs : s ≤ 62) : QLe (scl a m s) 8 := by
  refine QLe.mk' ?_ ?_ (Nat.two_pow_pos s)
  · rw [Int.natAbs_mul]
    exact Nat.lt_of_le_of_lt (abs_mul_lt ha hm) (by decide)
  · exact Nat.lt_of_le_of_lt (Nat.pow_le_pow_right (by omega) hs) (by decide)
theorem scl_eq (a m : Int) (s : Nat) : (a : Rat) * (m : Rat) / pw s = scl a m s := by
  have h := mulpow a m s
  unfold scl pw
  rw [← h, Rat.intCast_natCast]
theorem pw_ne (s : Nat) : pw s ≠ 0 := by
  unfold pw
  intro h
  have h2 : (((2 ^ s : Nat) : Int) : Rat) = ((0 : Int) : Rat) := h
  rw [Rat.intCast_inj] at h2
  have := Nat.two_pow_pos s
  omega
theorem i64_abs {a : Int} (h : I64 a) : a.natAbs < 4294967296 ^ 2 := by
  unfold I64 at h
  have h1 : a.natAbs ≤ 9223372036854775808 := by omega
  exact Nat.lt_of_le_of_lt h1 (by decide)
theorem i64_le {a : Int} (h : I64 a) : RatLe (ratL (a : Rat)) 2 := int_le (i64_abs h)
theorem i64_QLe {a : Int} (h : I64 a) : QLe (a : Rat) 2 := by
  refine ⟨?_, ?_⟩
  · rw [Rat.num_intCast]; exact i64_abs h
  · rw [Rat.den_intCast]; decide

set_option maxRecDepth 100000 in
set_option maxHeartbeats 3200000 in
theorem x51Scale (a m : Int) (ha : I64 a) (hm : I64 m) (s : Nat) (hs : s ≤ 62) (w : World) :
    Calls Tryz.prog 35 #[.int .i64 a, .int .i64 m, .int .i64 (s : Int)] w fun e w' => e = .returned (.tuple #[.int .i64 (if roundN (scl a m s) ≤ 4611686018427387904 then roundZ (scl a m s) else 0), .int .i64 (if roundN (scl a m s) ≤ 4611686018427387904 then 0 else 2)]) ∧ Below w.heap.size w w' := by
  have HW := Lib.hid (fun w => x51whole w a ha)
  have HM := Lib.hid (fun w => x51whole w m hm)
  have HP := Lib.hid (fun w => x51Power w s (by omega))
  have HSh := Lib.hid (x51shifted s hs)
  have HLa := Lib.hid (i64_le ha)
  have HLm := Lib.hid (i64_le hm)
  have HLp := Lib.hid (pw_le (n := s) (by omega))
  have HLe := Lib.hid (scl_le ha hm hs)
  have HLam : Hid (RatLe (ratL ((a : Rat) * (m : Rat))) 4) := ((i64_QLe ha).mul (i64_QLe hm)).ratL
  obtain ⟨ha1, ha2⟩ := ha
  obtain ⟨hm1, hm2⟩ := hm
  have HRs := Lib.hid (fun (W : World) (v : Value) (hv : RatV W v (ratL (scl a m s))) => x51result hv HLe.out)
  generalize (if roundN (scl a m s) ≤ 4611686018427387904 then roundZ (scl a m s) else 0) = A at *
  generalize (if roundN (scl a m s) ≤ 4611686018427387904 then (0 : Int) else 2) = C at *
  go_enter Tryz.func35, Tryz.ntmps35
  go_wp2_with fail
  refine (HSh.out _).mono ?_
  rintro e w0 ⟨rfl, rfl⟩
  go_wp2_with fail
  refine (HW.out _).mono ?_
  rintro e w1 ⟨v1, rfl, g1, hb1⟩
  have G1 := Lib.hid g1
  have HB1 := Lib.hid hb1
  clear g1 hb1 HW
  go_wp2_with fail
  refine (HM.out _).mono ?_
  rintro e w2 ⟨v2, rfl, g2, hb2⟩
  have hMu := r3Mul (G1.out.below hb2) g2 (HLa.out.mono (by omega)) (HLm.out.mono (by omega))
  rw [ratOf_ratL, ratOf_ratL] at hMu
  have HMu := Lib.hid hMu
  have HB2 := Lib.hid (HB1.out.trans (hb2.mono HB1.out.size))
  clear hMu g2 hb2 HM G1 HB1
  go_wp2_with fail
  refine HMu.out.mono ?_
  rintro e w3 ⟨v3, rfl, g3, hb3⟩
  have G3 := Lib.hid g3
  have HB3 := Lib.hid (HB2.out.trans (hb3.mono HB2.out.size))
  clear g3 hb3 HMu HB2
  go_wp2_with fail
  refine (HP.out _).mono ?_
  rintro e w4 ⟨v4, rfl, g4, hb4⟩
  have hDi := r3Div (G3.out.below hb4) g4 (HLam.out.mono (by omega)) (HLp.out.mono (by omega)) (by rw [ratOf_ratL]; exact pw_ne s)
  rw [ratOf_ratL, ratOf_ratL, scl_eq] at hDi
  have HDi := Lib.hid hDi
  have HB4 := Lib.hid (HB3.out.trans (hb4.mono HB3.out.size))
  clear hDi g4 hb4 HP G3 HB3
  generalize hy : ratL (scl a m s) = y at *
  clear hy
  go_wp2_with fail
  refine HDi.out.mono ?_
  rintro e w5 ⟨v5, rfl, ⟨bn, bd, m1, m2, rfl, k3, k4, k5, k6⟩, hb5⟩
  go_upto_region 4 with fail
  have hal : Below w5.heap.size w5 (w5.alloc (.cells #[.bool y.neg, .slice bn y.num.length m1, .slice bd y.den.length m2] 44)) := (Below.refl _ _).alloc (Nat.le_refl _) _
  have HRc := Lib.hid (HRs.out _ _ (⟨bn, bd, m1, m2, rfl, k3, k4, k5.below hal, k6.below hal⟩ : RatV (w5.alloc (.cells #[.bool y.neg, .slice bn y.num.length m1, .slice bd y.den.length m2] 44)) (.agg #[.bool y.neg, .slice bn y.num.length m1, .slice bd y.den.length m2]) y))
  obtain ⟨x0, x1, x2, xf, xlt⟩ := Box3.alloc w5 (.bool y.neg) (.slice bn y.num.length m1) (.slice bd y.den.length m2) 44
  have HB5 := Lib.hid (HB4.out.trans ((hb5.trans (hal.mono hb5.size)).mono HB4.out.size))
  clear k5 k6 hb5 hal HDi HB4 HRs
  generalize w5.alloc (.cells #[.bool y.neg, .slice bn y.num.length m1, .slice bd y.den.length m2] 44) = W5 at *
  go_wp2_with fail
  refine HRc.out.mono ?_
  rintro e w6 ⟨rfl, hb6⟩
  have HB6 := Lib.hid (HB5.out.trans (hb6.mono HB5.out.size))
  clear HRc hb6 x0 x1 x2 xf xlt
  go_wp2
  go_ret2
  exact ⟨rfl, HB6.out⟩

theorem scl_round (a m : Int) (s : Nat) : roundN (scl a m s) = scaleQ a m s := scale_round a m s
theorem scl_roundZ (a m : Int) (s : Nat) : roundZ (scl a m s) = if a * m < 0 then -(scaleQ a m s : Int) else (scaleQ a m s : Int) := by
  have h := scale_sign a m s
  unfold roundZ
  rw [scl_round]
  unfold scl
  simp only [h]

set_option maxRecDepth 100000 in
set_option maxHeartbeats 3200000 in
theorem xScaled (a m : Int) (ha : I64 a) (hm : I64 m) (s : Nat) (hs : s ≤ 62) (w : World) :
    Calls Tryz.prog 24 #[.int .i64 a, .int .i64 m, .int .i64 (s : Int)] w fun e w' => e = .returned (.int .i64 (scaleL a m s)) ∧ Below w.heap.size w w' := by
  have hSc := x51Scale a m ha hm s hs
  rw [scl_round, scl_roundZ] at hSc
  have HSc := Lib.hid hSc
  have HSt := Lib.hid x51Saturate
  have HE := Lib.hid (scaled_eq a m s)
  unfold scaledL at HE
  generalize scaleL a m s = R at *
  obtain ⟨ha1, ha2⟩ := ha
  obtain ⟨hm1, hm2⟩ := hm
  clear hSc
  by_cases hle : scaleQ a m s ≤ 4611686018427387904
  · rw [if_pos hle, if_pos hle] at HSc
    rw [if_pos hle] at HE
    generalize (if a * m < 0 then -(scaleQ a m s : Int) else (scaleQ a m s : Int)) = V at *
    clear hle
    go_enter Tryz.func24, Tryz.ntmps24
    go_wp2_with fail
    refine (HSc.out _).mono ?_
    rintro e w1 ⟨rfl, hb1⟩
    have HB1 := Lib.hid hb1
    clear hb1
    go_wp2_with fail
    refine (HSt.out _ _).mono ?_
    rintro e w2 ⟨rfl, rfl⟩
    go_wp2
    go_ret
    exact ⟨ret_int HE.out, HB1.out⟩
  · rw [if_neg hle, if_neg hle] at HSc
    rw [if_neg hle] at HE
    clear hle
    by_cases hc : (a < 0) = (m < 0)
    · rw [if_pos hc] at HE
      have hd : (decide (a < 0) == decide (m < 0)) = true := by simp [hc]
      have hd2 : decide (¬ decide (a < 0) = decide (m < 0)) = false := by simp [hc]
      clear hc
      go_enter Tryz.func24, Tryz.ntmps24
      go_wp2_with fail
      refine (HSc.out _).mono ?_
      rintro e w1 ⟨rfl, hb1⟩
      have HB1 := Lib.hid hb1
      clear hb1
      go_wp2_with fail
      refine (HSt.out _ _).mono ?_
      rintro e w2 ⟨rfl, rfl⟩
      go_wp2
      go_ret
      exact ⟨ret_int HE.out, HB1.out⟩
    · rw [if_neg hc] at HE
      have hdn : ¬ decide (a < 0) = decide (m < 0) := by simp only [decide_eq_decide]; rw [eq_iff_iff] at hc; exact hc
      have hd : (decide (a < 0) == decide (m < 0)) = false := by rw [beq_eq_false_iff_ne]; exact hdn
      have hd2 : decide (¬ decide (a < 0) = decide (m < 0)) = true := decide_eq_true hdn
      clear hc hdn
      go_enter Tryz.func24, Tryz.ntmps24
      go_wp2_with fail
      refine (HSc.out _).mono ?_
      rintro e w1 ⟨rfl, hb1⟩
      have HB1 := Lib.hid hb1
      clear hb1
      go_wp2_with fail
      refine (HSt.out _ _).mono ?_
      rintro e w2 ⟨rfl, rfl⟩
      go_wp2
      go_ret
      exact ⟨ret_int HE.out, HB1.out⟩

end Go.Proofs.YthlmgejikbmmaaaGreat

/-
  The reference's element of layer 54: by contract, kind by kind.
-/
namespace Go.Proofs.YthlmgejikbmmaaaGreat
open Go.RowKit

set_option maxRecDepth 100000 in
set_option maxHeartbeats 3200000 in
theorem xElem1 {w : World} {v : Value} {o : OpL} (hv : OpV w v o) (hk : o.kind = 1) {S O : List Int} {aS aO : Option Addr} (cs co : Nat) (hS : Ints w Any aS S) (hO : Ints w Any aO O) (i : Nat) (hi : i < o.index.length) (hx1 : -1 ≤ o.index.getD i 0) (hx2 : o.index.getD i 0 < (S.length : Int)) :
    Calls Tryz.prog 14 #[v, .slice aS S.length cs, .slice aO O.length co, .int .i64 (i : Int)] w fun e w' => e = .returned (.int .i64 (if o.index.getD i 0 < 0 then 0 else S.getD (o.index.getD i 0).toNat 0)) ∧ Below w.heap.size w w' := by
  obtain ⟨a1, a2, a3, c1, c2, c3, rfl, h1, h2, h3, _⟩ := hv.ex
  rw [hk]
  have q1 := h1.len
  have q2 := h2.len
  have q3 := h3.len
  have qS := hS.len
  have qO := hO.len
  have H1 := Lib.hid h1
  have H2 := Lib.hid h2
  have H3 := Lib.hid h3
  have HS := Lib.hid hS
  have HO := Lib.hid hO
  generalize hR : (if o.index.getD i 0 < 0 then 0 else S.getD (o.index.getD i 0).toNat 0) = R
  have HR := Lib.hid hR
  clear hv h1 h2 h3 hS hO hk hR
  go_enter Tryz.func14, Tryz.ntmps14
  go_upto_region 1 with fail
  have hbx := Box11.alloc w (.int .i64 1) (.int .i64 o.dst) (.int .i64 o.src) (.int .i64 o.other) (.int .i64 o.cols) (.int .i64 o.inner) (.slice a1 o.index.length c1) (.slice a2 o.weights.length c2) (.slice a3 o.bias.length c3) (.int .i64 o.mul) (.int .i64 o.shift) 40
  have hb1 : Below w.heap.size w (w.alloc (.cells #[.int .i64 1, .int .i64 o.dst, .int .i64 o.src, .int .i64 o.other, .int .i64 o.cols, .int .i64 o.inner, .slice a1 o.index.length c1, .slice a2 o.weights.length c2, .slice a3 o.bias.length c3, .int .i64 o.mul, .int .i64 o.shift] 40)) := (Below.refl _ _).alloc (Nat.le_refl _) _
  generalize w.alloc (.cells #[.int .i64 1, .int .i64 o.dst, .int .i64 o.src, .int .i64 o.other, .int .i64 o.cols, .int .i64 o.inner, .slice a1 o.index.length c1, .slice a2 o.weights.length c2, .slice a3 o.bias.length c3, .int .i64 o.mul, .int .i64 o.shift] 40) = W at *
  have HB := Lib.hid hb1
  obtain ⟨x0, x1, x2, x3, x4, x5, x6, x7, x8, x9, x10, xlt⟩ := hbx
  clear hb1
  obtain ⟨b, off, rfl, _, hb, hc⟩ := (H1.out.below HB.out).cells hi
  have cI := hc i hi
  clear hc
  generalize o.index.getD i 0 = x at *
  by_cases hx : x < 0
  · have d1 : decide (x < 0) = true := decide_eq_true hx
    have HR2 : Hid (0 = R) := by unfold Hid; rw [← HR.out, if_pos hx]
    go_wp2
    go_ret
    exact ⟨ret_int HR2.out, HB.out⟩
  · have d1 : decide (x < 0) = false := decide_eq_false hx
    obtain ⟨n, rfl⟩ : ∃ n : Nat, x = (n : Int) := ⟨x.toNat, by omega⟩
    have hn : n < S.length := by omega
    obtain ⟨b', off', rfl, _, hb', hc'⟩ := (HS.out.below HB.out).cells hn
    have cS := hc' n hn
    have HR2 : Hid (S.getD n 0 = R) := by unfold Hid; rw [← HR.out, if_neg hx, Int.toNat_natCast]
    clear hc' HR
    generalize S.getD n 0 = y at *
    go_wp2
    go_ret
    exact ⟨ret_int HR2.out, HB.out⟩

set_option maxRecDepth 100000 in
set_option maxHeartbeats 3200000 in
theorem xElem3 {w : World} {v : Value} {o : OpL} (hv : OpV w v o) (hk : o.kind = 3) {S O : List Int} {aS aO : Option Addr} (cs co : Nat) (hS : Ints w Any aS S) (hO : Ints w Any aO O) (i : Nat) (hi : i < S.length) :
    Calls Tryz.prog 14 #[v, .slice aS S.length cs, .slice aO O.length co, .int .i64 (i : Int)] w fun e w' => e = .returned (.int .i64 (max 0 (S.getD i 0))) ∧ Below w.heap.size w w' := by
  obtain ⟨a1, a2, a3, c1, c2, c3, rfl, h1, h2, h3, _⟩ := hv.ex
  rw [hk]
  have q1 := h1.len
  have q2 := h2.len
  have q3 := h3.len
  have qS := hS.len
  have qO := hO.len
  have H1 := Lib.hid h1
  have H2 := Lib.hid h2
  have H3 := Lib.hid h3
  have HS := Lib.hid hS
  have HO := Lib.hid hO
  generalize hR : (max 0 (S.getD i 0)) = R
  have HR := Lib.hid hR
  clear hv h1 h2 h3 hS hO hk hR
  go_enter Tryz.func14, Tryz.ntmps14
  go_upto_region 1 with fail
  have hbx := Box11.alloc w (.int .i64 3) (.int .i64 o.dst) (.int .i64 o.src) (.int .i64 o.other) (.int .i64 o.cols) (.int .i64 o.inner) (.slice a1 o.index.length c1) (.slice a2 o.weights.length c2) (.slice a3 o.bias.length c3) (.int .i64 o.mul) (.int .i64 o.shift) 40
  have hb1 : Below w.heap.size w (w.alloc (.cells #[.int .i64 3, .int .i64 o.dst, .int .i64 o.src, .int .i64 o.other, .int .i64 o.cols, .int .i64 o.inner, .slice a1 o.index.length c1, .slice a2 o.weights.length c2, .slice a3 o.bias.length c3, .int .i64 o.mul, .int .i64 o.shift] 40)) := (Below.refl _ _).alloc (Nat.le_refl _) _
  generalize w.alloc (.cells #[.int .i64 3, .int .i64 o.dst, .int .i64 o.src, .int .i64 o.other, .int .i64 o.cols, .int .i64 o.inner, .slice a1 o.index.length c1, .slice a2 o.weights.length c2, .slice a3 o.bias.length c3, .int .i64 o.mul, .int .i64 o.shift] 40) = W at *
  have HB := Lib.hid hb1
  obtain ⟨x0, x1, x2, x3, x4, x5, x6, x7, x8, x9, x10, xlt⟩ := hbx
  clear hb1
  obtain ⟨b, off, rfl, _, hb, hc⟩ := (HS.out.below HB.out).cells hi
  have cS := hc i hi
  clear hc
  generalize S.getD i 0 = y at *
  go_wp2
  go_ret
  exact ⟨ret_int HR.out, HB.out⟩

set_option maxRecDepth 100000 in
set_option maxHeartbeats 3200000 in
theorem xElem6 {w : World} {v : Value} {o : OpL} (hv : OpV w v o) (hk : o.kind = 6) {S O : List Int} {aS aO : Option Addr} (cs co : Nat) (hS : Ints w Any aS S) (hO : Ints w Any aO O) (i : Nat) (hi : i < S.length) (hj : i < O.length) :
    Calls Tryz.prog 14 #[v, .slice aS S.length cs, .slice aO O.length co, .int .i64 (i : Int)] w fun e w' => e = .returned (.int .i64 (wrap64 (S.getD i 0 + O.getD i 0))) ∧ Below w.heap.size w w' := by
  obtain ⟨a1, a2, a3, c1, c2, c3, rfl, h1, h2, h3, _⟩ := hv.ex
  rw [hk]
  have q1 := h1.len
  have q2 := h2.len
  have q3 := h3.len
  have qS := hS.len
  have qO := hO.len
  have H1 := Lib.hid h1
  have H2 := Lib.hid h2
  have H3 := Lib.hid h3
  have HS := Lib.hid hS
  have HO := Lib.hid hO
  generalize hR : (wrap64 (S.getD i 0 + O.getD i 0)) = R
  have HR := Lib.hid hR
  clear hv h1 h2 h3 hS hO hk hR
  go_enter Tryz.func14, Tryz.ntmps14
  go_upto_region 1 with fail
  have hbx := Box11.alloc w (.int .i64 6) (.int .i64 o.dst) (.int .i64 o.src) (.int .i64 o.other) (.int .i64 o.cols) (.int .i64 o.inner) (.slice a1 o.index.length c1) (.slice a2 o.weights.length c2) (.slice a3 o.bias.length c3) (.int .i64 o.mul) (.int .i64 o.shift) 40
  have hb1 : Below w.heap.size w (w.alloc (.cells #[.int .i64 6, .int .i64 o.dst, .int .i64 o.src, .int .i64 o.other, .int .i64 o.cols, .int .i64 o.inner, .slice a1 o.index.length c1, .slice a2 o.weights.length c2, .slice a3 o.bias.length c3, .int .i64 o.mul, .int .i64 o.shift] 40)) := (Below.refl _ _).alloc (Nat.le_refl _) _
  generalize w.alloc (.cells #[.int .i64 6, .int .i64 o.dst, .int .i64 o.src, .int .i64 o.other, .int .i64 o.cols, .int .i64 o.inner, .slice a1 o.index.length c1, .slice a2 o.weights.length c2, .slice a3 o.bias.length c3, .int .i64 o.mul, .int .i64 o.shift] 40) = W at *
  have HB := Lib.hid hb1
  obtain ⟨x0, x1, x2, x3, x4, x5, x6, x7, x8, x9, x10, xlt⟩ := hbx
  clear hb1
  obtain ⟨b, off, rfl, _, hb, hc⟩ := (HS.out.below HB.out).cells hi
  have cS := hc i hi
  obtain ⟨b', off', rfl, _, hb', hc'⟩ := (HO.out.below HB.out).cells hj
  have cO := hc' i hj
  clear hc hc'
  generalize S.getD i 0 = y at *
  generalize O.getD i 0 = z at *
  have HBn := Lib.hid (fun (wv : World) n => Below.drewN_refl wv n)
  go_wp2
  go_quiet (fail)
  go_wp2
  go_ret
  exact ⟨ret_int HR.out, HB.out.trans ((HBn.out _ _).mono HB.out.size)⟩

set_option maxRecDepth 100000 in
set_option maxHeartbeats 3200000 in
theorem xElem7 {w : World} {v : Value} {o : OpL} (hv : OpV w v o) (hk : o.kind = 7) {S O : List Int} {aS aO : Option Addr} (cs co : Nat) (hS : Ints w Any aS S) (hO : Ints w Any aO O) (i : Nat) (hi : i < S.length) (hm : I64 o.mul) (hs1 : 0 ≤ o.shift) (hs2 : o.shift ≤ 62) :
    Calls Tryz.prog 14 #[v, .slice aS S.length cs, .slice aO O.length co, .int .i64 (i : Int)] w fun e w' => e = .returned (.int .i64 (scaleL (S.getD i 0) o.mul o.shift.toNat)) ∧ Below w.heap.size w w' := by
  obtain ⟨a1, a2, a3, c1, c2, c3, rfl, h1, h2, h3, _⟩ := hv.ex
  rw [hk]
  have q1 := h1.len
  have q2 := h2.len
  have q3 := h3.len
  have qS := hS.len
  have qO := hO.len
  have H1 := Lib.hid h1
  have H2 := Lib.hid h2
  have H3 := Lib.hid h3
  have HS := Lib.hid hS
  have HO := Lib.hid hO
  generalize hR : (scaleL (S.getD i 0) o.mul o.shift.toNat) = R
  have HR := Lib.hid hR
  clear hv h1 h2 h3 hS hO hk hR
  go_enter Tryz.func14, Tryz.ntmps14
  go_upto_region 1 with fail
  have hbx := Box11.alloc w (.int .i64 7) (.int .i64 o.dst) (.int .i64 o.src) (.int .i64 o.other) (.int .i64 o.cols) (.int .i64 o.inner) (.slice a1 o.index.length c1) (.slice a2 o.weights.length c2) (.slice a3 o.bias.length c3) (.int .i64 o.mul) (.int .i64 o.shift) 40
  have hb1 : Below w.heap.size w (w.alloc (.cells #[.int .i64 7, .int .i64 o.dst, .int .i64 o.src, .int .i64 o.other, .int .i64 o.cols, .int .i64 o.inner, .slice a1 o.index.length c1, .slice a2 o.weights.length c2, .slice a3 o.bias.length c3, .int .i64 o.mul, .int .i64 o.shift] 40)) := (Below.refl _ _).alloc (Nat.le_refl _) _
  generalize w.alloc (.cells #[.int .i64 7, .int .i64 o.dst, .int .i64 o.src, .int .i64 o.other, .int .i64 o.cols, .int .i64 o.inner, .slice a1 o.index.length c1, .slice a2 o.weights.length c2, .slice a3 o.bias.length c3, .int .i64 o.mul, .int .i64 o.shift] 40) = W at *
  have HB := Lib.hid hb1
  obtain ⟨x0, x1, x2, x3, x4, x5, x6, x7, x8, x9, x10, xlt⟩ := hbx
  clear hb1
  obtain ⟨b, off, rfl, _, hb, hc⟩ := (HS.out.below HB.out).cells hi
  have cS := ext_cell (hc i hi) hb
  have hxr := getD_I64 HS.out.wf i
  obtain ⟨s, hs⟩ : ∃ s : Nat, o.shift = (s : Int) := ⟨o.shift.toNat, by omega⟩
  have HSc := Lib.hid (fun W => xScaled (S.getD i 0) o.mul hxr hm s (by omega) W)
  have f9 := ext_cell x9 xlt
  have f10 := ext_cell x10 xlt
  rw [hs] at f10
  have hr := HR.out
  rw [hs, Int.toNat_natCast] at hr
  have HR2 := Lib.hid hr
  clear hr HR
  obtain ⟨hm1, hm2⟩ := hm
  obtain ⟨hx1, hx2⟩ := hxr
  have hs3 : s ≤ 62 := by omega
  clear hc hs hs1 hs2
  generalize S.getD i 0 = y at *
  generalize scaleL y o.mul s = z at *
  go_wp2
  refine wp_region_quiet_ext (by kernel_rfl) (by kernel_rfl) ?_
  repeat (go_big_quiet_step (first | (go_at_call 24; with_reducible exact Calls.ext_of (HSc.out _))))
  refine wpQuiet_nil ?_
  intro _ hw'
  obtain ⟨nq, hw''⟩ := hw'
  subst hw''
  have HBN := Lib.hid (HB.out.trans ((ext_below W nq).mono HB.out.size))
  generalize ext W nq = w5 at *
  go_wp2
  go_ret
  exact ⟨ret_int HR2.out, HBN.out⟩

set_option maxRecDepth 100000 in
set_option maxHeartbeats 3200000 in
theorem xElem4 {w : World} {v : Value} {o : OpL} (hv : OpV w v o) (hk : o.kind = 4) {S O : List Int} {aS aO : Option Addr} (cs co : Nat) (hS : Ints w Any aS S) (hO : Ints w Any aO O) (i : Nat) (n m : Nat) (hm : o.inner = (m : Int)) (hin : i < n) (hl : S.length = n * m) (hm1 : 1 ≤ m) (hm2 : m ≤ 262144) (hn : n ≤ 262144) :
    Calls Tryz.prog 14 #[v, .slice aS S.length cs, .slice aO O.length co, .int .i64 (i : Int)] w fun e w' => e = .returned (.int .i64 (mxAt S (i * m) m)) ∧ Below w.heap.size w w' := by
  obtain ⟨a1, a2, a3, c1, c2, c3, rfl, h1, h2, h3, _⟩ := hv.ex
  rw [hk]
  have q1 := h1.len
  have q2 := h2.len
  have q3 := h3.len
  have qS := hS.len
  have qO := hO.len
  have H1 := Lib.hid h1
  have H2 := Lib.hid h2
  have H3 := Lib.hid h3
  have HS := Lib.hid hS
  have HO := Lib.hid hO
  have HMi := Lib.hid hm
  clear hm
  generalize hR : (mxAt S (i * m) m) = R
  have HR := Lib.hid hR
  clear hv h1 h2 h3 hS hO hk hR
  go_enter Tryz.func14, Tryz.ntmps14
  go_upto_region 1 with fail
  have hbx := Box11.alloc w (.int .i64 4) (.int .i64 o.dst) (.int .i64 o.src) (.int .i64 o.other) (.int .i64 o.cols) (.int .i64 o.inner) (.slice a1 o.index.length c1) (.slice a2 o.weights.length c2) (.slice a3 o.bias.length c3) (.int .i64 o.mul) (.int .i64 o.shift) 40
  have hb1 : Below w.heap.size w (w.alloc (.cells #[.int .i64 4, .int .i64 o.dst, .int .i64 o.src, .int .i64 o.other, .int .i64 o.cols, .int .i64 o.inner, .slice a1 o.index.length c1, .slice a2 o.weights.length c2, .slice a3 o.bias.length c3, .int .i64 o.mul, .int .i64 o.shift] 40)) := (Below.refl _ _).alloc (Nat.le_refl _) _
  generalize w.alloc (.cells #[.int .i64 4, .int .i64 o.dst, .int .i64 o.src, .int .i64 o.other, .int .i64 o.cols, .int .i64 o.inner, .slice a1 o.index.length c1, .slice a2 o.weights.length c2, .slice a3 o.bias.length c3, .int .i64 o.mul, .int .i64 o.shift] 40) = W at *
  have HB := Lib.hid hb1
  obtain ⟨x0, x1, x2, x3, x4, x5, x6, x7, x8, x9, x10, xlt⟩ := hbx
  clear hb1
  rw [HMi.out] at x5
  have hfit : i * m + m ≤ S.length := by rw [hl, ← Nat.succ_mul]; exact Nat.mul_le_mul_right _ hin
  have hbig : S.length ≤ 68719476736 := by rw [hl]; exact Nat.le_trans (Nat.mul_le_mul hn hm2) (by decide)
  obtain ⟨b, off, rfl, _, hb, hc⟩ := (HS.out.below HB.out).cells (show i * m < S.length by omega)
  have c0 := hc (i * m) (by omega)
  have hfirst : mxAt S (i * m) 1 = S.getD (i * m) 0 := by unfold mxAt mxAt; rw [Nat.add_zero]; omega
  have HStep : Hid (∀ k, k < m → mxAt S (i * m) (k + 1) = max (mxAt S (i * m) k) (S.getD (i * m + k) 0)) := fun k _ => rfl
  have HFirst := Lib.hid hfirst
  have HWf := Lib.hid HS.out.wf
  have HC := Lib.hid hc
  clear hc hfirst hl
  obtain ⟨lo, hlo⟩ : ∃ lo, lo = i * m := ⟨_, rfl⟩
  rw [← hlo] at hfit c0 HStep HFirst HR
  have m1 : IntKind.i64.wrap ((i : Int) * (m : Int)) = (lo : Int) := by
    rw [show ((i : Int) * (m : Int)) = ((i * m : Nat) : Int) by simp, ← hlo]; exact IntWalk.i64_in _ (by omega)
  have m1' : ((i : Int) * (m : Int)) = (lo : Int) := by
    rw [show ((i : Int) * (m : Int)) = ((i * m : Nat) : Int) by simp, ← hlo]
  clear hlo
  go_wp2
  go_loop [13, 14] (fun u j => ∃ k : Nat, 1 ≤ k ∧ k ≤ m ∧ j = .int .i64 (k : Int) ∧ u = .int .i64 (mxAt S lo k)) (fun _ j => m - (intOf j).toNat)
  case atStart => exact ⟨1, Nat.le_refl _, hm1, rfl, by rw [HFirst.out, List.getD_eq_getElem?_getD]⟩
  case round =>
    obtain ⟨k, hk1, hk, rfl, rfl⟩ := hrel
    by_cases hlt : k < m
    · have cK := HC.out (lo + k) (by omega)
      have hst := HStep.out k hlt
      have HSt := Lib.hid hst
      generalize S.getD (lo + k) 0 = y at *
      clear hst c0
      go_wp2
      exact ⟨⟨k + 1, by omega, hlt, by go_num, by rw [HSt.out]⟩, by simp [intOf]; omega⟩
    · obtain rfl : k = m := by omega
      go_wp2
      go_ret
      exact ⟨ret_int HR.out, HB.out⟩

set_option maxRecDepth 100000 in
set_option maxHeartbeats 3200000 in
theorem xElem5 {w : World} {v : Value} {o : OpL} (hv : OpV w v o) (hk : o.kind = 5) {S O : List Int} {aS aO : Option Addr} (cs co : Nat) (hS : Ints w Any aS S) (hO : Ints w Any aO O) (i : Nat) (n m : Nat) (hm : o.inner = (m : Int)) (hin : i < n) (hl : S.length = n * m) (hm1 : 1 ≤ m) (hm2 : m ≤ 262144) (hn : n ≤ 262144) :
    Calls Tryz.prog 14 #[v, .slice aS S.length cs, .slice aO O.length co, .int .i64 (i : Int)] w fun e w' => e = .returned (.int .i64 (smAt S (i * m) 0 m)) ∧ Below w.heap.size w w' := by
  obtain ⟨a1, a2, a3, c1, c2, c3, rfl, h1, h2, h3, _⟩ := hv.ex
  rw [hk]
  have q1 := h1.len
  have q2 := h2.len
  have q3 := h3.len
  have qS := hS.len
  have qO := hO.len
  have H1 := Lib.hid h1
  have H2 := Lib.hid h2
  have H3 := Lib.hid h3
  have HS := Lib.hid hS
  have HO := Lib.hid hO
  have HMi := Lib.hid hm
  clear hm
  generalize hR : (smAt S (i * m) 0 m) = R
  have HR := Lib.hid hR
  clear hv h1 h2 h3 hS hO hk hR
  go_enter Tryz.func14, Tryz.ntmps14
  go_upto_region 1 with fail
  have hbx := Box11.alloc w (.int .i64 5) (.int .i64 o.dst) (.int .i64 o.src) (.int .i64 o.other) (.int .i64 o.cols) (.int .i64 o.inner) (.slice a1 o.index.length c1) (.slice a2 o.weights.length c2) (.slice a3 o.bias.length c3) (.int .i64 o.mul) (.int .i64 o.shift) 40
  have hb1 : Below w.heap.size w (w.alloc (.cells #[.int .i64 5, .int .i64 o.dst, .int .i64 o.src, .int .i64 o.other, .int .i64 o.cols, .int .i64 o.inner, .slice a1 o.index.length c1, .slice a2 o.weights.length c2, .slice a3 o.bias.length c3, .int .i64 o.mul, .int .i64 o.shift] 40)) := (Below.refl _ _).alloc (Nat.le_refl _) _
  generalize w.alloc (.cells #[.int .i64 5, .int .i64 o.dst, .int .i64 o.src, .int .i64 o.other, .int .i64 o.cols, .int .i64 o.inner, .slice a1 o.index.length c1, .slice a2 o.weights.length c2, .slice a3 o.bias.length c3, .int .i64 o.mul, .int .i64 o.shift] 40) = W at *
  have HB := Lib.hid hb1
  obtain ⟨x0, x1, x2, x3, x4, x5, x6, x7, x8, x9, x10, xlt⟩ := hbx
  clear hb1
  rw [HMi.out] at x5
  have hfit : i * m + m ≤ S.length := by rw [hl, ← Nat.succ_mul]; exact Nat.mul_le_mul_right _ hin
  have hbig : S.length ≤ 68719476736 := by rw [hl]; exact Nat.le_trans (Nat.mul_le_mul hn hm2) (by decide)
  obtain ⟨b, off, rfl, _, hb, hc⟩ := (HS.out.below HB.out).cells (show i * m < S.length by omega)
  have c0 := hc (i * m) (by omega)
  have hfirst : smAt S (i * m) 0 1 = S.getD (i * m) 0 := by unfold smAt smAt; rw [Nat.add_zero, Int.zero_add]; have := HS.out.wf; exact IntWalk.wrap64_in _ (getD_I64 HS.out.wf _)
  have HStep : Hid (∀ k, k < m → smAt S (i * m) 0 (k + 1) = wrap64 (smAt S (i * m) 0 k + S.getD (i * m + k) 0)) := fun k _ => rfl
  have HFirst := Lib.hid hfirst
  have HWf := Lib.hid HS.out.wf
  have HC := Lib.hid hc
  clear hc hfirst hl
  obtain ⟨lo, hlo⟩ : ∃ lo, lo = i * m := ⟨_, rfl⟩
  rw [← hlo] at hfit c0 HStep HFirst HR
  have m1 : IntKind.i64.wrap ((i : Int) * (m : Int)) = (lo : Int) := by
    rw [show ((i : Int) * (m : Int)) = ((i * m : Nat) : Int) by simp, ← hlo]; exact IntWalk.i64_in _ (by omega)
  have m1' : ((i : Int) * (m : Int)) = (lo : Int) := by
    rw [show ((i : Int) * (m : Int)) = ((i * m : Nat) : Int) by simp, ← hlo]
  clear hlo
  go_wp2
  go_loop [13, 14] (fun u j => ∃ k : Nat, 1 ≤ k ∧ k ≤ m ∧ j = .int .i64 (k : Int) ∧ u = .int .i64 (smAt S lo 0 k)) (fun _ j => m - (intOf j).toNat)
  case atStart => exact ⟨1, Nat.le_refl _, hm1, rfl, by rw [HFirst.out, List.getD_eq_getElem?_getD]⟩
  case round =>
    obtain ⟨k, hk1, hk, rfl, rfl⟩ := hrel
    by_cases hlt : k < m
    · have cK := HC.out (lo + k) (by omega)
      have hst := HStep.out k hlt
      have HSt := Lib.hid hst
      generalize S.getD (lo + k) 0 = y at *
      clear hst c0
      go_wp2
      exact ⟨⟨k + 1, by omega, hlt, by go_num, by rw [HSt.out]⟩, by simp [intOf]; omega⟩
    · obtain rfl : k = m := by omega
      go_wp2
      go_ret
      exact ⟨ret_int HR.out, HB.out⟩

end Go.Proofs.YthlmgejikbmmaaaGreat

/-
  The reference's element of layer 54 for a product of matrices: by contract.
-/
namespace Go.Proofs.YthlmgejikbmmaaaGreat
open Go.RowKit

set_option maxRecDepth 100000 in
set_option maxHeartbeats 3200000 in
theorem xElem2 {w : World} {v : Value} {o : OpL} (hv : OpV w v o) (hk : o.kind = 2) {S O : List Int} {aS aO : Option Addr} (cs co : Nat) (hS : Ints w Any aS S) (hO : Ints w Any aO O) (i : Nat)
    (rows cols inner : Nat) (hcl : o.cols = (cols : Int)) (hil : o.inner = (inner : Int)) (hBl : o.bias.length = rows) (hWl : o.weights.length = rows * inner) (hSl : S.length = inner * cols) (hz : rows ≤ 262144 ∧ cols ≤ 262144 ∧ inner ≤ 262144) (hc0 : 0 < cols) (hi0 : 0 < inner) (hi : i < rows * cols) :
    Calls Tryz.prog 14 #[v, .slice aS S.length cs, .slice aO O.length co, .int .i64 (i : Int)] w fun e w' => e = .returned (.int .i64 (gemmAt o.weights o.bias S inner cols i)) ∧ Below w.heap.size w w' := by
  obtain ⟨z1, z2, z3⟩ := hz
  obtain ⟨a1, a2, a3, c1, c2, c3, rfl, h1, h2, h3, _⟩ := hv.ex
  rw [hk, hcl, hil]
  have q1 := h1.len
  have q2 := h2.len
  have q3 := h3.len
  have qS := hS.len
  have qO := hO.len
  have H2 := Lib.hid h2
  have H3 := Lib.hid h3
  have HS := Lib.hid hS
  have hib : i < 68719476736 := Nat.lt_of_lt_of_le hi (Nat.le_trans (Nat.mul_le_mul z1 z2) (by decide))
  obtain ⟨r, hr⟩ : ∃ r, r = i / cols := ⟨_, rfl⟩
  obtain ⟨c, hcq⟩ : ∃ c, c = i % cols := ⟨_, rfl⟩
  have hcc : c < cols := by subst hcq; exact Nat.mod_lt _ hc0
  have hrr : r < rows := by subst hr; exact Nat.div_lt_of_lt_mul (by rw [Nat.mul_comm]; exact hi)
  have hG : gemmAt o.weights o.bias S inner cols i = gsum o.weights S (o.bias.getD r 0) inner cols r c inner := by unfold gemmAt; rw [← hr, ← hcq]
  rw [hG]
  obtain ⟨bv, hbv⟩ : ∃ bv, bv = o.bias.getD r 0 := ⟨_, rfl⟩
  rw [← hbv]
  have HBv := Lib.hid hbv
  have d1 : (i : Int) / (cols : Int) = (r : Int) := by subst hr; exact (Int.natCast_ediv _ _).symm
  have d2 : (i : Int) % (cols : Int) = (c : Int) := by subst hcq; exact (Int.natCast_emod _ _).symm
  have d3 : (i : Int).tdiv (cols : Int) = (r : Int) := by rw [Int.tdiv_eq_ediv_of_nonneg (by omega)]; exact d1
  have d4 : (i : Int).tmod (cols : Int) = (c : Int) := by rw [Int.tmod_eq_emod_of_nonneg (by omega)]; exact d2
  have d5 : ((cols : Int) == 0) = false := by rw [beq_eq_false_iff_ne]; omega
  have d6 : ¬ cols = 0 := by omega
  have HWl := Lib.hid hWl
  have HBl := Lib.hid hBl
  have HSl := Lib.hid hSl
  clear hv h1 h2 h3 hS hO hk hcl hil hG hWl hBl hSl hr hcq hi hbv
  go_enter Tryz.func14, Tryz.ntmps14
  go_upto_region 1 with fail
  have hbx := Box11.alloc w (.int .i64 2) (.int .i64 o.dst) (.int .i64 o.src) (.int .i64 o.other) (.int .i64 (cols : Int)) (.int .i64 (inner : Int)) (.slice a1 o.index.length c1) (.slice a2 o.weights.length c2) (.slice a3 o.bias.length c3) (.int .i64 o.mul) (.int .i64 o.shift) 40
  have hb1 : Below w.heap.size w (w.alloc (.cells #[.int .i64 2, .int .i64 o.dst, .int .i64 o.src, .int .i64 o.other, .int .i64 (cols : Int), .int .i64 (inner : Int), .slice a1 o.index.length c1, .slice a2 o.weights.length c2, .slice a3 o.bias.length c3, .int .i64 o.mul, .int .i64 o.shift] 40)) := (Below.refl _ w).alloc (Nat.le_refl _) _
  generalize w.alloc (.cells #[.int .i64 2, .int .i64 o.dst, .int .i64 o.src, .int .i64 o.other, .int .i64 (cols : Int), .int .i64 (inner : Int), .slice a1 o.index.length c1, .slice a2 o.weights.length c2, .slice a3 o.bias.length c3, .int .i64 o.mul, .int .i64 o.shift] 40) = W at *
  have HB := Lib.hid hb1
  obtain ⟨x0, x1, x2, x3, x4, x5, x6, x7, x8, x9, x10, xlt⟩ := hbx
  clear hb1
  obtain ⟨b3, o3, rfl, _, hb3, hcb⟩ := (H3.out.below HB.out).cells (show r < o.bias.length by rw [HBl.out]; exact hrr)
  have cb := hcb r (by rw [HBl.out]; exact hrr)
  have hW0 := H2.out.below HB.out
  have hS0 := HS.out.below HB.out
  have HWW := Lib.hid hW0
  have HSW := Lib.hid hS0
  rw [← HBv.out] at cb
  have hrb : r < o.bias.length := by rw [HBl.out]; exact hrr
  clear hcb hW0 hS0 H2 H3 HS
  go_wp2
  go_quiet (fail)
  go_wp2
  go_loopw [11, 12] (fun v i wr => ∃ k : Nat, k ≤ inner ∧ i = .int .i64 (k : Int) ∧ v = .int .i64 (gsum o.weights S bv inner cols r c k) ∧ Hid (∃ n, wr = W.drewN n)) (fun _ i _ => inner - (intOf i).toNat)
  case atStart => exact ⟨0, Nat.zero_le _, rfl, rfl, _, rfl⟩
  case round =>
    obtain ⟨k, hk, rfl, rfl, HWr⟩ := hrel
    obtain ⟨nd, rfl⟩ := HWr.out
    by_cases hltk : k < inner
    · have hwi : r * inner + k < o.weights.length := by
        rw [HWl.out]
        exact Nat.lt_of_lt_of_le (Nat.add_lt_add_left hltk _) (by rw [← Nat.succ_mul]; exact Nat.mul_le_mul_right _ (by omega))
      have hsi : k * cols + c < S.length := by
        rw [HSl.out]
        exact Nat.lt_of_lt_of_le (Nat.add_lt_add_left hcc _) (by rw [← Nat.succ_mul]; exact Nat.mul_le_mul_right _ (by omega))
      obtain ⟨b2, o2, rfl, _, hb2, hcw⟩ := HWW.out.cells hwi
      have cw := hcw _ hwi
      obtain ⟨b5, o5, rfl, _, hb5, hcs⟩ := HSW.out.cells hsi
      have cs := hcs _ hsi
      have hri : r * inner ≤ 68719476736 := Nat.le_trans (Nat.mul_le_mul (by omega : r ≤ 262144) z3) (by decide)
      have hkc : k * cols ≤ 68719476736 := Nat.le_trans (Nat.mul_le_mul (by omega : k ≤ 262144) z2) (by decide)
      have w1 : IntKind.i64.wrap ((r : Int) * (inner : Int)) = ((r * inner : Nat) : Int) := by
        rw [show ((r : Int) * (inner : Int)) = ((r * inner : Nat) : Int) by simp]; exact IntWalk.i64_in _ (by omega)
      have w2 : IntKind.i64.wrap ((k : Int) * (cols : Int)) = ((k * cols : Nat) : Int) := by
        rw [show ((k : Int) * (cols : Int)) = ((k * cols : Nat) : Int) by simp]; exact IntWalk.i64_in _ (by omega)
      have HG : Hid (gsum o.weights S bv inner cols r c (k + 1) = wrap64 (gsum o.weights S bv inner cols r c k + wrap64 (o.weights.getD (r * inner + k) 0 * S.getD (k * cols + c) 0))) := rfl
      generalize hri' : r * inner = ri at *
      generalize hkc' : k * cols = kc at *
      have v1 : IntKind.i64.wrap ((ri : Int) + (k : Int)) = ((ri + k : Nat) : Int) := by rw [show ((ri : Int) + (k : Int)) = ((ri + k : Nat) : Int) by simp]; exact IntWalk.i64_in _ (by omega)
      have v2 : IntKind.i64.wrap ((c : Int) + (kc : Int)) = ((kc + c : Nat) : Int) := by rw [show ((c : Int) + (kc : Int)) = ((kc + c : Nat) : Int) by simp; omega]; exact IntWalk.i64_in _ (by omega)
      have v2' : IntKind.i64.wrap ((kc : Int) + (c : Int)) = ((kc + c : Nat) : Int) := by rw [show ((kc : Int) + (c : Int)) = ((kc + c : Nat) : Int) by simp]; exact IntWalk.i64_in _ (by omega)
      generalize o.weights.getD (ri + k) 0 = xw at cw HG
      generalize S.getD (kc + c) 0 = xs at cs HG
      generalize gsum o.weights S bv inner cols r c k = acc at HG ⊢
      clear hri' hkc' hcw hcs d1 d2 d3 d4
      go_wp2
      go_quiet (fail)
      go_wp2
      exact ⟨⟨k + 1, hltk, by go_num, by rw [HG.out], _, rfl⟩, by simp [intOf]; omega⟩
    · obtain rfl : k = inner := by omega
      have HBn := Lib.hid (HB.out.trans ((drewN_below W nd).mono HB.out.size))
      clear d1 d2 d3 d4
      go_wp2
      go_ret
      exact ⟨rfl, HBn.out⟩

end Go.Proofs.YthlmgejikbmmaaaGreat

/-
  The reference's element of layer 54, at any permitted operation: by contract.
-/
namespace Go.Proofs.YthlmgejikbmmaaaGreat
open Go.RowKit

theorem xElem {w : World} {v : Value} {o : OpL} (hv : OpV w v o) {sizes : List Int} {T : Int → Bool} (hop : opOK sizes T o = true) (hmu : I64 o.mul) {S O : List Int} {aS aO : Option Addr} (cs co : Nat) (hS : Ints w Any aS S) (hO : Ints w Any aO O) (i n : Nat)
    (hd : (n : Int) = sizes.getD o.dst.toNat 0) (hs : (S.length : Int) = sizes.getD o.src.toNat 0) (ho : o.kind = 6 → (O.length : Int) = sizes.getD o.other.toNat 0) (hi : i < n) (hn : n ≤ 262144) (hsl : S.length ≤ 262144) :
    Calls Tryz.prog 14 #[v, .slice aS S.length cs, .slice aO O.length co, .int .i64 (i : Int)] w fun e w' => e = .returned (.int .i64 (elemL o S O i)) ∧ Below w.heap.size w w' := by
  unfold opOK at hop
  simp only [Bool.and_eq_true, Bool.not_eq_true', Bool.or_eq_true] at hop
  obtain ⟨_, _, _, _, hf⟩ := hop
  unfold fitsL at hf
  unfold elemL
  rw [← hd, ← hs] at hf
  by_cases k1 : o.kind = 1
  · rw [if_pos k1] at hf ⊢
    simp only [Bool.and_eq_true, decide_eq_true_eq] at hf
    obtain ⟨⟨_, _, _, _, _, _, _, hil⟩, hall⟩ := hf
    have hlt : i < o.index.length := by omega
    have hx := wthn_iff.1 (List.all_eq_true.1 hall (o.index.getD i 0) (by rw [List.getD_eq_getElem?_getD, List.getElem?_eq_getElem hlt]; exact List.getElem_mem hlt))
    exact xElem1 hv k1 cs co hS hO i hlt hx.1 (by omega)
  rw [if_neg k1] at hf ⊢
  by_cases k2 : o.kind = 2
  · rw [if_pos k2, decide_eq_true_eq] at hf
    rw [if_pos k2]
    obtain ⟨_, _, _, _, c1, c2, n1, n2, hm, hmod, hb, hw⟩ := hf
    obtain ⟨cols, hc⟩ : ∃ c : Nat, o.cols = (c : Int) := ⟨o.cols.toNat, by omega⟩
    obtain ⟨inner, hin⟩ : ∃ c : Nat, o.inner = (c : Int) := ⟨o.inner.toNat, by omega⟩
    rw [hc] at c1 c2 hm hmod hb
    rw [hin] at n1 n2 hm hw
    have e1 : S.length = inner * cols := by exact_mod_cast hm
    have e2 : o.weights.length = o.bias.length * inner := by exact_mod_cast hw
    have e3 : n % cols = 0 := by exact_mod_cast hmod
    have e4 : o.bias.length = n / cols := by exact_mod_cast hb
    have e5 : o.bias.length * cols = n := by rw [e4]; exact Nat.div_mul_cancel (Nat.dvd_of_mod_eq_zero e3)
    have e6 : o.bias.length ≤ n := by rw [e4]; exact Nat.div_le_self _ _
    rw [hc, hin, Int.toNat_natCast, Int.toNat_natCast]
    exact xElem2 hv k2 cs co hS hO i o.bias.length cols inner hc hin rfl e2 e1 ⟨by omega, by omega, by omega⟩ (by omega) (by omega) (by rw [e5]; exact hi)
  rw [if_neg k2] at hf ⊢
  by_cases k3 : o.kind = 3
  · rw [if_pos k3, decide_eq_true_eq] at hf
    rw [if_pos k3]
    exact xElem3 hv k3 cs co hS hO i (by omega)
  rw [if_neg k3] at hf ⊢
  by_cases k45 : o.kind = 4 ∨ o.kind = 5
  · rw [if_pos k45, decide_eq_true_eq] at hf
    obtain ⟨_, _, _, _, _, _, _, n1, n2, hm⟩ := hf
    obtain ⟨inner, hin⟩ : ∃ c : Nat, o.inner = (c : Int) := ⟨o.inner.toNat, by omega⟩
    rw [hin] at n1 n2 hm
    have e1 : S.length = n * inner := by exact_mod_cast hm
    rw [hin, Int.toNat_natCast]
    by_cases k4 : o.kind = 4
    · rw [if_pos k4]
      exact xElem4 hv k4 cs co hS hO i n inner hin hi e1 (by omega) (by omega) hn
    · have k5 : o.kind = 5 := by omega
      rw [if_neg k4, if_pos k5]
      exact xElem5 hv k5 cs co hS hO i n inner hin hi e1 (by omega) (by omega) hn
  rw [if_neg k45] at hf
  rw [if_neg (fun h => k45 (.inl h)), if_neg (fun h => k45 (.inr h))]
  by_cases k6 : o.kind = 6
  · have h6 := ho k6
    unfold otherOf at hf
    rw [if_pos k6, if_pos k6, decide_eq_true_eq, ← h6] at hf
    rw [if_pos k6]
    exact xElem6 hv k6 cs co hS hO i (by omega) (by omega)
  rw [if_neg k6] at hf ⊢
  by_cases k7 : o.kind = 7
  · rw [if_pos k7, decide_eq_true_eq] at hf
    exact xElem7 hv k7 cs co hS hO i (by omega) hmu (by omega) (by omega)
  · rw [if_neg k7] at hf; cases hf

end Go.Proofs.YthlmgejikbmmaaaGreat

/-
  While the reference lays one row, element by element: what is so of memory. No function in sight.
-/
namespace Go.Proofs.YthlmgejikbmmaaaGreat
open Go.RowKit

theorem Box11.set {w : World} {g : Nat} {p0 p1 p2 p3 p4 p5 p6 p7 p8 p9 p10 : Value} (h : Box11 w g p0 p1 p2 p3 p4 p5 p6 p7 p8 p9 p10) {q x : Nat} (hq : q ≠ g) (u : Value) : Box11 (w.setCell ⟨q, x, none⟩ u) g p0 p1 p2 p3 p4 p5 p6 p7 p8 p9 p10 :=
  ⟨(far2 hq).trans h.c0, (far2 hq).trans h.c1, (far2 hq).trans h.c2, (far2 hq).trans h.c3, (far2 hq).trans h.c4, (far2 hq).trans h.c5, (far2 hq).trans h.c6, (far2 hq).trans h.c7, (far2 hq).trans h.c8, (far2 hq).trans h.c9, (far2 hq).trans h.c10, by simpa using h.lt⟩

structure L3 (w2 wy : World) (B p : Nat) (gs : List Nat) (vs : List (List Int)) (d n : Nat) (N : List Int) (m : Nat) (p0 p1 p2 p3 p4 p5 p6 p7 p8 p9 p10 : Value) : Prop where
  rows : RowsM wy B gs (vs.set d (N.take m ++ (List.replicate n (0 : Int)).drop m))
  box : Box11 wy p p0 p1 p2 p3 p4 p5 p6 p7 p8 p9 p10
  bl : Below w2.heap.size w2 wy
theorem L3.start {w2 wr : World} {B n d : Nat} {gs : List Nat} {vs : List (List Int)} {N : List Int} {p0 p1 p2 p3 p4 p5 p6 p7 p8 p9 p10 : Value} (hr : RowsM wr B gs vs) (hd : vs[d]? = some (List.replicate n 0)) (hb : Below w2.heap.size w2 wr) (T : Nat) :
    L3 w2 (wr.alloc (.cells #[p0, p1, p2, p3, p4, p5, p6, p7, p8, p9, p10] T)) B wr.heap.size gs vs d n N 0 p0 p1 p2 p3 p4 p5 p6 p7 p8 p9 p10 := by
  have e : vs.set d (List.replicate n (0 : Int)) = vs := by
    apply List.ext_getElem?
    intro i
    by_cases hid : d = i
    · subst hid
      rw [List.getElem?_set_self (List.getElem?_eq_some_iff.1 hd).1, hd]
    · rw [List.getElem?_set_ne hid]
  have hal : Below wr.heap.size wr (wr.alloc (.cells #[p0, p1, p2, p3, p4, p5, p6, p7, p8, p9, p10] T)) := (Below.refl _ _).alloc (Nat.le_refl _) _
  refine ⟨?_, Box11.alloc _ _ _ _ _ _ _ _ _ _ _ _ _, hb.trans (hal.mono hb.size)⟩
  rw [List.take_zero, List.drop_zero, List.nil_append, e]
  exact hr.below hal
theorem L3.pick {w2 wy : World} {B p n d m s : Nat} {gs : List Nat} {vs : List (List Int)} {N S : List Int} {p0 p1 p2 p3 p4 p5 p6 p7 p8 p9 p10 : Value} (h : L3 w2 wy B p gs vs d n N m p0 p1 p2 p3 p4 p5 p6 p7 p8 p9 p10)
    (hsd : s ≠ d) (hs : vs[s]? = some S) (hw : ∀ x ∈ S, I64 x) (hl : S.length ≤ 262144) : ∃ g c, wy.cell? ⟨B, s, none⟩ = some (.slice (some ⟨g, 0, none⟩) S.length c) ∧ Ints wy Any (some ⟨g, 0, none⟩) S := by
  have hlt : s < gs.length := by rw [h.rows.len, List.length_set]; exact (List.getElem?_eq_some_iff.1 hs).1
  have hg : gs[s]? = some gs[s] := List.getElem?_eq_getElem hlt
  have hv : (vs.set d (N.take m ++ (List.replicate n (0 : Int)).drop m))[s]? = some S := by rw [List.getElem?_set_ne (Ne.symm hsd)]; exact hs
  obtain ⟨⟨c, _, q⟩, r⟩ := h.rows.row s _ S hg hv
  exact ⟨_, c, q, r.ints hw (by omega)⟩
theorem L3.here {w2 wy : World} {B p n d m : Nat} {gs : List Nat} {vs : List (List Int)} {N : List Int} {p0 p1 p2 p3 p4 p5 p6 p7 p8 p9 p10 : Value} (h : L3 w2 wy B p gs vs d n N m p0 p1 p2 p3 p4 p5 p6 p7 p8 p9 p10)
    (hd : d < vs.length) (hN : N.length = n) (hm : m < n) : ∃ g c old, gs[d]? = some g ∧ wy.cell? ⟨B, d, none⟩ = some (.slice (some ⟨g, 0, none⟩) n c) ∧ wy.cell? ⟨g, m, none⟩ = some old ∧ wy.frozen? ⟨g, m, none⟩ = false ∧ g < wy.heap.size := by
  have hlt : d < gs.length := by rw [h.rows.len, List.length_set]; exact hd
  have hg : gs[d]? = some gs[d] := List.getElem?_eq_getElem hlt
  have hv : (vs.set d (N.take m ++ (List.replicate n (0 : Int)).drop m))[d]? = some (N.take m ++ (List.replicate n (0 : Int)).drop m) := List.getElem?_set_self hd
  obtain ⟨⟨c, _, q⟩, r⟩ := h.rows.row d _ _ hg hv
  have hlen : (N.take m ++ (List.replicate n (0 : Int)).drop m).length = n := by simp; omega
  rw [hlen] at q
  exact ⟨_, c, _, hg, q, r.at_ m (by omega), r.free m, r.lt⟩
theorem L3.step {w2 wy w5 : World} {B p n d m g : Nat} {gs : List Nat} {vs : List (List Int)} {N : List Int} {p0 p1 p2 p3 p4 p5 p6 p7 p8 p9 p10 : Value} (h : L3 w2 wy B p gs vs d n N m p0 p1 p2 p3 p4 p5 p6 p7 p8 p9 p10)
    (hb : Below wy.heap.size wy w5) (hg : gs[d]? = some g) (hd : d < vs.length) (hN : N.length = n) (hm : m < n) (hp : g ≠ p) (h2 : w2.heap.size ≤ g) {y : Int} (hy : N.getD m 0 = y) :
    L3 w2 (w5.setCell ⟨g, m, none⟩ (.int .i64 y)) B p gs vs d n N (m + 1) p0 p1 p2 p3 p4 p5 p6 p7 p8 p9 p10 :=
  ⟨(h.rows.below hb).turn hg hd (by simp [hN]) (by simpa using hm) hy, (h.box.below hb).set hp _, (h.bl.trans (hb.mono h.bl.size)).setCell h2 _⟩
theorem L3.end_ {w2 wy : World} {B p n d : Nat} {gs : List Nat} {vs : List (List Int)} {N : List Int} {p0 p1 p2 p3 p4 p5 p6 p7 p8 p9 p10 : Value} (h : L3 w2 wy B p gs vs d n N n p0 p1 p2 p3 p4 p5 p6 p7 p8 p9 p10) (hN : N.length = n) : RowsM wy B gs (vs.set d N) := by
  have := h.rows
  rwa [List.take_of_length_le (by omega), List.drop_of_length_le (by simp), List.append_nil] at this

end Go.Proofs.YthlmgejikbmmaaaGreat

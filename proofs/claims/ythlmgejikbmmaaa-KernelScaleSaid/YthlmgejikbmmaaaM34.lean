/-
  Contracts of the functions that the statements reach, in the order in which they are built: RKF, KerSca.
-/
import Derived.Test.YthlmgejikbmmaaaM31
import Derived.Test.YthlmgejikbmmaaaM32
import Derived.Test.YthlmgejikbmmaaaM33
import Derived.Test.YthlmgejikbmmaaaM30
import Derived.Test.YthlmgejikbmmaaaM14
import Derived.Test.YthlmgejikbmmaaaM4
set_option linter.unusedVariables false
set_option linter.unusedSimpArgs false
set_option linter.constructorNameAsVariable false
set_option linter.deprecated false

/-
  The reference of layer 51: round, result, Scale; Scaled of layer 54: by contract.
-/
namespace Go.Proofs.Ythlmgejikbmmaaa
open Go.RowKit

/-- The absolute value of a canonical number, and a half. -/
def absQ (q : Rat) : Rat := mkRat (q.num.natAbs : Int) q.den
theorem abs_ratL (q : Rat) : ratOf ⟨false, (ratL q).num, (ratL q).den⟩ = absQ q := by
  unfold ratOf absQ
  simp only [underN_ratL]
  have : lval (ratL q).num = q.num.natAbs := by unfold ratL; exact lval_limbs _
  rw [this]
  rfl
theorem round_le {q : Rat} (h : QLe q 8) : roundN q < 4294967296 ^ 9 := by
  have h1 := h.num
  have h2 := h.den
  unfold roundN
  refine Nat.lt_of_le_of_lt (Nat.div_le_self _ _) ?_
  have : (4294967296 : Nat) ^ 9 = 4294967296 ^ 8 * 4294967296 := Nat.pow_succ _ _
  omega
theorem round_pow {q : Rat} : (0 < cmpQ ((roundN q : Int) : Rat) (pw 62)) ↔ ¬ roundN q ≤ 4611686018427387904 := by
  rw [cmpQ_pos]
  unfold pw
  rw [Rat.intCast_lt_intCast]
  omega
theorem sign_round {q : Rat} : (signQ q < 0) ↔ q < 0 := by
  unfold signQ
  by_cases h : q < 0
  · simp [h]
  · simp only [h, if_false]
    split <;> simp
theorem absQ_le {q : Rat} (h : QLe q 8) : RatLe ⟨false, (ratL q).num, (ratL q).den⟩ 8 := ⟨h.ratL.num, h.ratL.den⟩
theorem half_le : RatLe (ratL (1 / 2)) 8 := QLe.ratL ⟨by decide +kernel, by decide +kernel⟩

theorem half_eq : ((1 : Int) : Rat) / ((2 : Int) : Rat) = 1 / 2 := by decide +kernel
theorem absQ_QLe {q : Rat} (h : QLe q 8) : QLe (absQ q) 9 := by
  have := QLe.ratOf (x := ⟨false, (ratL q).num, (ratL q).den⟩) ⟨(ratL_lim q).1, (ratL_lim q).2⟩ (absQ_le h)
  rwa [abs_ratL] at this
theorem int_le {z : Int} {k : Nat} (h : z.natAbs < 4294967296 ^ k) : RatLe (ratL (z : Rat)) k := by
  rw [ratL_int]
  exact ⟨limbs_len_le h, by simp⟩
theorem sum_le {q : Rat} (h : QLe q 8) : RatLe (ratL (absQ q + 1 / 2)) 12 :=
  ((absQ_QLe h).add (show QLe (1 / 2) 2 from ⟨by decide +kernel, by decide +kernel⟩)).ratL

set_option maxRecDepth 100000 in
set_option maxHeartbeats 3200000 in
theorem x51round {w : World} {v : Value} {q : Rat} (hv : RatV w v (ratL q)) (hq : QLe q 8) :
    Calls Try.prog 105 #[v] w fun e w' => e = .returned (.tuple #[.int .i64 (if roundN q ≤ 4611686018427387904 then roundZ q else 0), .bool (decide (roundN q ≤ 4611686018427387904))]) ∧ Below w.heap.size w w' := by
  have HV := Lib.hid hv
  generalize hA : (if roundN q ≤ 4611686018427387904 then roundZ q else 0) = A
  generalize hBb : decide (roundN q ≤ 4611686018427387904) = B
  have HA := Lib.hid hA
  have HBb := Lib.hid hBb
  obtain ⟨an, ad, cn, cd, rfl, a2, a3, a4, a5⟩ := hv.ex
  have hl1 := a4.len
  have hl2 := a5.len
  have A4 := Lib.hid a4
  have A5 := Lib.hid a5
  have HQ := Lib.hid hq
  have HAb := Lib.hid (abs_ratL q)
  have HAl := Lib.hid (absQ_le hq)
  have HS : Hid (signQ (ratOf (ratL q)) = signQ q) := by unfold Hid; rw [ratOf_ratL]
  have hln : (ratL q).num.length ≤ 17592186044416 := Nat.le_trans hq.ratL.num (by omega)
  have HLn := Lib.hid hln
  generalize ratL q = y at *
  clear hv a4 a5 hq hln hA hBb
  go_enter Try.func105, Try.ntmps105
  go_upto_region 3 with fail
  have hF := TwoB.mk' w (.bool y.neg) (.slice an y.num.length cn) (.slice ad y.den.length cd) (.bool false) (.slice an y.num.length cn) (.slice ad y.den.length cd) 78
  generalize (w.alloc (.cells #[.bool y.neg, .slice an y.num.length cn, .slice ad y.den.length cd] 78)).alloc (.cells #[.bool false, .slice an y.num.length cn, .slice ad y.den.length cd] 78) = W at *
  have HF := Lib.hid hF
  have HVy := Lib.hid (HV.out.below hF.bl)
  have HVa : Hid (RatV W (.agg #[.bool false, .slice an y.num.length cn, .slice ad y.den.length cd]) ⟨false, y.num, y.den⟩) := ⟨an, ad, cn, cd, rfl, a2, a3, A4.out.below hF.bl, A5.out.below hF.bl⟩
  have hFr := r3Frac W 1 2 (by omega) (by omega) (by omega) (by omega) (by omega)
  rw [half_eq] at hFr
  have HFr := Lib.hid hFr
  have HHl := Lib.hid half_le
  have HHr : Hid (ratOf (ratL (1 / 2)) = 1 / 2) := ratOf_ratL _
  generalize ratL (1 / 2) = hh at *
  clear hF HV A4 A5 hFr
  go_wp2_with fail
  refine HFr.out.mono ?_
  rintro e w1 ⟨v1, rfl, ⟨hn, hd, c1, c2, rfl, g1, g2, g3, g4⟩, hb1⟩
  go_upto_region 4 with fail
  have hal : Below w1.heap.size w1 (w1.alloc (.cells #[.bool hh.neg, .slice hn hh.num.length c1, .slice hd hh.den.length c2] 78)) := (Below.refl _ _).alloc (Nat.le_refl _) _
  have HX1 := Lib.hid ((HF.out.a.below hb1).below hal)
  have hA1 := (HF.out.b.below hb1).below hal
  have HVy1 := Lib.hid ((HVy.out.below hb1).below hal)
  have hVa1 := (HVa.out.below hb1).below hal
  have hVh : RatV (w1.alloc (.cells #[.bool hh.neg, .slice hn hh.num.length c1, .slice hd hh.den.length c2] 78)) (.agg #[.bool hh.neg, .slice hn hh.num.length c1, .slice hd hh.den.length c2]) hh := ⟨hn, hd, c1, c2, rfl, g1, g2, g3.below hal, g4.below hal⟩
  have hb2 := hb1.trans (hal.mono hb1.size)
  have HB1 := Lib.hid (HF.out.bl.trans (hb2.mono (by have := HF.out.a.lt; omega)))
  have hAd := r3Add hVa1 hVh (HAl.out.mono (by omega)) (HHl.out.mono (by omega))
  rw [HAb.out, HHr.out] at hAd
  have HAd := Lib.hid hAd
  obtain ⟨p0, p1, p2, pf, plt⟩ := hA1
  obtain ⟨q0, q1, q2, qf, qlt⟩ := Box3.alloc w1 (.bool hh.neg) (.slice hn hh.num.length c1) (.slice hd hh.den.length c2) 78
  clear hal hb1 hb2 g3 g4 hVa1 hVh hAd HFr HF HVy HVa
  generalize w1.alloc (.cells #[.bool hh.neg, .slice hn hh.num.length c1, .slice hd hh.den.length c2] 78) = W1 at *
  go_wp2_with fail
  refine HAd.out.mono ?_
  rintro e w2 ⟨v2, rfl, g5, hb2⟩
  have hFl := r3Floor g5 (show RatLe (ratL (absQ q + 1 / 2)) 1048576 from (sum_le HQ.out).mono (by omega))
  rw [ratOf_ratL, absQ, floor_half] at hFl
  obtain ⟨z, hz⟩ : ∃ z : Int, z = (roundN q : Int) := ⟨_, rfl⟩
  rw [← hz] at hFl
  have HZ := Lib.hid hz
  clear hz
  have HFl := Lib.hid hFl
  have HX2 := Lib.hid (HX1.out.below hb2)
  have HVy2 := Lib.hid (HVy1.out.below hb2)
  have HB2 := Lib.hid (HB1.out.trans (hb2.mono HB1.out.size))
  clear hFl g5 hb2 HAd HX1 HVy1 HB1 p0 p1 p2 pf plt q0 q1 q2 qf qlt
  go_wp2_with fail
  refine HFl.out.mono ?_
  rintro e w3 ⟨v3, rfl, ⟨a3, c3, rfl, k1, k2⟩, hb3⟩
  go_upto_region 5 with fail
  have hal : Below w3.heap.size w3 (w3.alloc (.cells #[.bool (decide (z < 0)), .slice a3 (limbs z.natAbs).length c3] 106)) := (Below.refl _ _).alloc (Nat.le_refl _) _
  have hb4 := hb3.trans (hal.mono hb3.size)
  have hI4 : IntC (w3.alloc (.cells #[.bool (decide (z < 0)), .slice a3 (limbs z.natAbs).length c3] 106)) (.agg #[.bool (decide (z < 0)), .slice a3 (limbs z.natAbs).length c3]) z := ⟨a3, c3, rfl, k1, k2.below hal⟩
  have HB4 := Lib.hid (HB2.out.trans (hb4.mono HB2.out.size))
  have HX4 := Lib.hid (HX2.out.below hb4)
  have HVy4 := Lib.hid (HVy2.out.below hb4)
  have HN4 := Lib.hid (Box2.alloc w3 (.bool (decide (z < 0))) (.slice a3 (limbs z.natAbs).length c3) 106)
  clear k2 hb3 HFl HX2 HVy2 HB2 hal hb4
  generalize w3.alloc (.cells #[.bool (decide (z < 0)), .slice a3 (limbs z.natAbs).length c3] 106) = W4 at *
  have hrl : (limbs z.natAbs).length ≤ 9 := limbs_len_le (by rw [HZ.out, Int.natAbs_natCast]; exact round_le HQ.out)
  have HI4 := Lib.hid hI4
  have hWh := r3Whole hI4.v (by omega)
  rw [sgn_of_int] at hWh
  have HWh := Lib.hid hWh
  obtain ⟨n0, n1, nf, nlt⟩ := HN4.out
  clear hI4 hWh
  go_wp2_with fail
  refine HWh.out.mono ?_
  rintro e w5 ⟨v5, rfl, g5, hb5⟩
  have hPw : Calls Try.prog 75 #[.int .i64 62] w5 (RetR w5 (ratL (pw 62))) := x51Power w5 62 (by omega)
  have HPw := Lib.hid hPw
  have HG5 := Lib.hid g5
  have HX5 := Lib.hid (HX4.out.below hb5)
  have HVy5 := Lib.hid (HVy4.out.below hb5)
  have HN5 := Lib.hid (HN4.out.below hb5)
  have HI5 := Lib.hid (HI4.out.below hb5)
  have HB5 := Lib.hid (HB4.out.trans (hb5.mono HB4.out.size))
  clear hPw g5 hb5 HX4 HVy4 HN4 HI4 HB4 HWh n0 n1 nf nlt
  go_wp2_with fail
  refine HPw.out.mono ?_
  rintro e w6 ⟨v6, rfl, g6, hb6⟩
  have hCm := r3Cmp (HG5.out.below hb6) g6 (show RatLe (ratL (z : Rat)) 524286 from (int_le (by rw [HZ.out, Int.natAbs_natCast]; exact round_le HQ.out)).mono (by omega)) ((pw_le (n := 62) (by omega)).mono (by omega))
  rw [ratOf_ratL, ratOf_ratL] at hCm
  have HCm := Lib.hid hCm
  have HX6 := Lib.hid (HX5.out.below hb6)
  have HVy6 := Lib.hid (HVy5.out.below hb6)
  have HN6 := Lib.hid (HN5.out.below hb6)
  have HI6 := Lib.hid (HI5.out.below hb6)
  have HB6 := Lib.hid (HB5.out.trans (hb6.mono HB5.out.size))
  clear hCm g6 hb6 HX5 HVy5 HN5 HI5 HB5 HPw HG5
  go_wp2_with fail
  refine HCm.out.mono ?_
  rintro e w7 ⟨rfl, hb7⟩
  have HX7 := Lib.hid (HX6.out.below hb7)
  have HVy7 := Lib.hid (HVy6.out.below hb7)
  have HN7 := Lib.hid (HN6.out.below hb7)
  have HI7 := Lib.hid (HI6.out.below hb7)
  have HB7 := Lib.hid (HB6.out.trans (hb7.mono HB6.out.size))
  clear hb7 HX6 HVy6 HN6 HI6 HB6 HCm
  by_cases hle : roundN q ≤ 4611686018427387904
  · have d1 : decide (0 < cmpQ (z : Rat) (pw 62)) = false := decide_eq_false (fun h => by rw [HZ.out] at h; exact round_pow.1 h hle)
    obtain rfl : B = true := by rw [← HBb.out]; exact decide_eq_true hle
    have HRd : Hid (A = if q < 0 then -z else z) := by
      unfold Hid
      rw [← HA.out, if_pos hle, HZ.out]
      rfl
    have HC := Lib.hid (r2Int HI7.out (by have := HZ.out; omega) (by have := HZ.out; omega))
    have hz1 : 0 ≤ z ∧ z ≤ 4611686018427387904 := by have := HZ.out; omega
    generalize cmpQ (z : Rat) (pw 62) = cq at *
    obtain ⟨n0, n1, nf, nlt⟩ := HN7.out
    clear hle HA HBb HZ
    go_wp2_with fail
    refine HC.out.mono ?_
    rintro e w8 ⟨rfl, hb8⟩
    have hSg := r3Sign (HVy7.out.below hb8) HLn.out
    rw [HS.out] at hSg
    have HSg := Lib.hid hSg
    obtain ⟨x0, x1, x2, xf, xlt⟩ := HX7.out.below hb8
    have HB8 := Lib.hid (HB7.out.trans (hb8.mono HB7.out.size))
    clear hSg HC HX7 HVy7 HN7 HI7 HB7 hb8 n0 n1 nf nlt
    go_wp2_with fail
    refine HSg.out.mono ?_
    rintro e w9 ⟨rfl, hb9⟩
    have HB9 := Lib.hid (HB8.out.trans (hb9.mono HB8.out.size))
    clear HSg hb9 x0 x1 x2 xf xlt
    by_cases hq : q < 0
    · have d2 : decide (signQ q < 0) = true := decide_eq_true (sign_round.2 hq)
      have HR2 : Hid (A = -z) := by unfold Hid; rw [HRd.out, if_pos hq]
      clear hq HRd
      generalize signQ q = sq at *
      go_wp2
      go_ret2
      exact ⟨by rw [HR2.out]; rfl, HB9.out⟩
    · have d2 : decide (signQ q < 0) = false := decide_eq_false (fun h => hq (sign_round.1 h))
      have HR2 : Hid (A = z) := by unfold Hid; rw [HRd.out, if_neg hq]
      clear hq HRd
      generalize signQ q = sq at *
      go_wp2
      go_ret2
      exact ⟨by rw [HR2.out]; rfl, HB9.out⟩
  · have d1 : decide (0 < cmpQ (z : Rat) (pw 62)) = true := decide_eq_true (by rw [HZ.out]; exact round_pow.2 hle)
    obtain rfl : B = false := by rw [← HBb.out]; exact decide_eq_false hle
    have HR2 : Hid (A = 0) := by unfold Hid; rw [← HA.out, if_neg hle]
    generalize cmpQ (z : Rat) (pw 62) = cq at *
    go_wp2
    go_ret2
    exact ⟨by rw [HR2.out]; rfl, HB7.out⟩

set_option maxRecDepth 100000 in
set_option maxHeartbeats 1600000 in
theorem x51result {w : World} {v : Value} {q : Rat} (hv : RatV w v (ratL q)) (hq : QLe q 8) :
    Calls Try.prog 76 #[v] w fun e w' => e = .returned (.tuple #[.int .i64 (if roundN q ≤ 4611686018427387904 then roundZ q else 0), .int .i64 (if roundN q ≤ 4611686018427387904 then 0 else 2)]) ∧ Below w.heap.size w w' := by
  have HR0 := Lib.hid (fun (W : World) (hb : Below w.heap.size w W) => x51round (hv.below hb) hq)
  obtain ⟨an, ad, cn, cd, rfl, a2, a3, a4, a5⟩ := hv.ex
  have hl1 := a4.len
  have hl2 := a5.len
  have hAB : ∃ A B C, (if roundN q ≤ 4611686018427387904 then roundZ q else 0) = A ∧ decide (roundN q ≤ 4611686018427387904) = B ∧ (if roundN q ≤ 4611686018427387904 then (0 : Int) else 2) = C ∧ ((B = true ∧ C = 0) ∨ (B = false ∧ A = 0 ∧ C = 2)) := by
    refine ⟨_, _, _, rfl, rfl, rfl, ?_⟩
    by_cases h : roundN q ≤ 4611686018427387904
    · exact .inl ⟨decide_eq_true h, if_pos h⟩
    · exact .inr ⟨decide_eq_false h, if_neg h, if_neg h⟩
  obtain ⟨A, B, C, e1, e2, e3, hAB⟩ := hAB
  rw [e1, e2] at HR0
  rw [e1, e3]
  generalize ratL q = y at *
  clear hv a4 a5 hq e1 e2 e3
  go_enter Try.func76, Try.ntmps76
  go_upto_region 1 with fail
  have hX := Box3.alloc w (.bool y.neg) (.slice an y.num.length cn) (.slice ad y.den.length cd) 78
  have hb : Below w.heap.size w (w.alloc (.cells #[.bool y.neg, .slice an y.num.length cn, .slice ad y.den.length cd] 78)) := (Below.refl _ _).alloc (Nat.le_refl _) _
  generalize w.alloc (.cells #[.bool y.neg, .slice an y.num.length cn, .slice ad y.den.length cd] 78) = W at *
  have HR := Lib.hid (HR0.out W hb)
  have HB := Lib.hid hb
  obtain ⟨x0, x1, x2, xf, xlt⟩ := hX
  clear hb HR0
  go_wp2_with fail
  refine HR.out.mono ?_
  rintro e w1 ⟨rfl, hb1⟩
  have HB1 := Lib.hid (HB.out.trans (hb1.mono HB.out.size))
  clear hb1 HR x0 x1 x2 xf xlt
  rcases hAB with ⟨rfl, rfl⟩ | ⟨rfl, rfl, rfl⟩
  · go_wp2
    go_ret2
    exact ⟨rfl, HB1.out⟩
  · go_wp2
    go_ret2
    exact ⟨rfl, HB1.out⟩

/-- The quotient that Scale rounds. -/
def scl (a m : Int) (s : Nat) : Rat := mkRat (a * m) (2 ^ s)
theorem scl_le {a m : Int} {s : Nat} (ha : I64 a) (hm : I64 m) (hs : s ≤ 62) : QLe (scl a m s) 8 := by
  refine QLe.mk' ?_ ?_ (Nat.two_pow_pos s)
  · rw [Int.natAbs_mul]
    exact Nat.lt_of_le_of_lt (abs_mul_lt ha hm) (by decide)
  · exact Nat.lt_of_le_of_lt (Nat.pow_le_pow_right (by omega) hs) (by decide)
theorem scl_eq (a m : Int) (s : Nat) : (a : Rat) * (m : Rat) / pw s = scl a m s := by
  have h := mulpow a m s
  unfold scl pw
  rw [← h, Rat.intCast_natCast]
theorem pw_ne (s : Nat) : pw s ≠ 0 := by
  unfold pw
  intro h
  have h2 : (((2 ^ s : Nat) : Int) : Rat) = ((0 : Int) : Rat) := h
  rw [Rat.intCast_inj] at h2
  have := Nat.two_pow_pos s
  omega
theorem i64_abs {a : Int} (h : I64 a) : a.natAbs < 4294967296 ^ 2 := by
  unfold I64 at h
  have h1 : a.natAbs ≤ 9223372036854775808 := by omega
  exact Nat.lt_of_le_of_lt h1 (by decide)
theorem i64_le {a : Int} (h : I64 a) : RatLe (ratL (a : Rat)) 2 := int_le (i64_abs h)
theorem i64_QLe {a : Int} (h : I64 a) : QLe (a : Rat) 2 := by
  refine ⟨?_, ?_⟩
  · rw [Rat.num_intCast]; exact i64_abs h
  · rw [Rat.den_intCast]; decide

set_option maxRecDepth 100000 in
set_option maxHeartbeats 3200000 in
theorem x51Scale (a m : Int) (ha : I64 a) (hm : I64 m) (s : Nat) (hs : s ≤ 62) (w : World) :
    Calls Try.prog 50 #[.int .i64 a, .int .i64 m, .int .i64 (s : Int)] w fun e w' => e = .returned (.tuple #[.int .i64 (if roundN (scl a m s) ≤ 4611686018427387904 then roundZ (scl a m s) else 0), .int .i64 (if roundN (scl a m s) ≤ 4611686018427387904 then 0 else 2)]) ∧ Below w.heap.size w w' := by
  have HW := Lib.hid (fun w => x51whole w a ha)
  have HM := Lib.hid (fun w => x51whole w m hm)
  have HP := Lib.hid (fun w => x51Power w s (by omega))
  have HSh := Lib.hid (x51shifted s hs)
  have HLa := Lib.hid (i64_le ha)
  have HLm := Lib.hid (i64_le hm)
  have HLp := Lib.hid (pw_le (n := s) (by omega))
  have HLe := Lib.hid (scl_le ha hm hs)
  have HLam : Hid (RatLe (ratL ((a : Rat) * (m : Rat))) 4) := ((i64_QLe ha).mul (i64_QLe hm)).ratL
  obtain ⟨ha1, ha2⟩ := ha
  obtain ⟨hm1, hm2⟩ := hm
  have HRs := Lib.hid (fun (W : World) (v : Value) (hv : RatV W v (ratL (scl a m s))) => x51result hv HLe.out)
  generalize (if roundN (scl a m s) ≤ 4611686018427387904 then roundZ (scl a m s) else 0) = A at *
  generalize (if roundN (scl a m s) ≤ 4611686018427387904 then (0 : Int) else 2) = C at *
  go_enter Try.func50, Try.ntmps50
  go_wp2_with fail
  refine (HSh.out _).mono ?_
  rintro e w0 ⟨rfl, rfl⟩
  go_wp2_with fail
  refine (HW.out _).mono ?_
  rintro e w1 ⟨v1, rfl, g1, hb1⟩
  have G1 := Lib.hid g1
  have HB1 := Lib.hid hb1
  clear g1 hb1 HW
  go_wp2_with fail
  refine (HM.out _).mono ?_
  rintro e w2 ⟨v2, rfl, g2, hb2⟩
  have hMu := r3Mul (G1.out.below hb2) g2 (HLa.out.mono (by omega)) (HLm.out.mono (by omega))
  rw [ratOf_ratL, ratOf_ratL] at hMu
  have HMu := Lib.hid hMu
  have HB2 := Lib.hid (HB1.out.trans (hb2.mono HB1.out.size))
  clear hMu g2 hb2 HM G1 HB1
  go_wp2_with fail
  refine HMu.out.mono ?_
  rintro e w3 ⟨v3, rfl, g3, hb3⟩
  have G3 := Lib.hid g3
  have HB3 := Lib.hid (HB2.out.trans (hb3.mono HB2.out.size))
  clear g3 hb3 HMu HB2
  go_wp2_with fail
  refine (HP.out _).mono ?_
  rintro e w4 ⟨v4, rfl, g4, hb4⟩
  have hDi := r3Div (G3.out.below hb4) g4 (HLam.out.mono (by omega)) (HLp.out.mono (by omega)) (by rw [ratOf_ratL]; exact pw_ne s)
  rw [ratOf_ratL, ratOf_ratL, scl_eq] at hDi
  have HDi := Lib.hid hDi
  have HB4 := Lib.hid (HB3.out.trans (hb4.mono HB3.out.size))
  clear hDi g4 hb4 HP G3 HB3
  generalize hy : ratL (scl a m s) = y at *
  clear hy
  go_wp2_with fail
  refine HDi.out.mono ?_
  rintro e w5 ⟨v5, rfl, ⟨bn, bd, m1, m2, rfl, k3, k4, k5, k6⟩, hb5⟩
  go_upto_region 4 with fail
  have hal : Below w5.heap.size w5 (w5.alloc (.cells #[.bool y.neg, .slice bn y.num.length m1, .slice bd y.den.length m2] 78)) := (Below.refl _ _).alloc (Nat.le_refl _) _
  have HRc := Lib.hid (HRs.out _ _ (⟨bn, bd, m1, m2, rfl, k3, k4, k5.below hal, k6.below hal⟩ : RatV (w5.alloc (.cells #[.bool y.neg, .slice bn y.num.length m1, .slice bd y.den.length m2] 78)) (.agg #[.bool y.neg, .slice bn y.num.length m1, .slice bd y.den.length m2]) y))
  obtain ⟨x0, x1, x2, xf, xlt⟩ := Box3.alloc w5 (.bool y.neg) (.slice bn y.num.length m1) (.slice bd y.den.length m2) 78
  have HB5 := Lib.hid (HB4.out.trans ((hb5.trans (hal.mono hb5.size)).mono HB4.out.size))
  clear k5 k6 hb5 hal HDi HB4 HRs
  generalize w5.alloc (.cells #[.bool y.neg, .slice bn y.num.length m1, .slice bd y.den.length m2] 78) = W5 at *
  go_wp2_with fail
  refine HRc.out.mono ?_
  rintro e w6 ⟨rfl, hb6⟩
  have HB6 := Lib.hid (HB5.out.trans (hb6.mono HB5.out.size))
  clear HRc hb6 x0 x1 x2 xf xlt
  go_wp2
  go_ret2
  exact ⟨rfl, HB6.out⟩

theorem scl_round (a m : Int) (s : Nat) : roundN (scl a m s) = scaleQ a m s := scale_round a m s
theorem scl_roundZ (a m : Int) (s : Nat) : roundZ (scl a m s) = if a * m < 0 then -(scaleQ a m s : Int) else (scaleQ a m s : Int) := by
  have h := scale_sign a m s
  unfold roundZ
  rw [scl_round]
  unfold scl
  simp only [h]

set_option maxRecDepth 100000 in
set_option maxHeartbeats 3200000 in
theorem xScaled (a m : Int) (ha : I64 a) (hm : I64 m) (s : Nat) (hs : s ≤ 62) (w : World) :
    Calls Try.prog 29 #[.int .i64 a, .int .i64 m, .int .i64 (s : Int)] w fun e w' => e = .returned (.int .i64 (scaleL a m s)) ∧ Below w.heap.size w w' := by
  have hSc := x51Scale a m ha hm s hs
  rw [scl_round, scl_roundZ] at hSc
  have HSc := Lib.hid hSc
  have HSt := Lib.hid x51Saturate
  have HE := Lib.hid (scaled_eq a m s)
  unfold scaledL at HE
  generalize scaleL a m s = R at *
  obtain ⟨ha1, ha2⟩ := ha
  obtain ⟨hm1, hm2⟩ := hm
  clear hSc
  by_cases hle : scaleQ a m s ≤ 4611686018427387904
  · rw [if_pos hle, if_pos hle] at HSc
    rw [if_pos hle] at HE
    generalize (if a * m < 0 then -(scaleQ a m s : Int) else (scaleQ a m s : Int)) = V at *
    clear hle
    go_enter Try.func29, Try.ntmps29
    go_wp2_with fail
    refine (HSc.out _).mono ?_
    rintro e w1 ⟨rfl, hb1⟩
    have HB1 := Lib.hid hb1
    clear hb1
    go_wp2_with fail
    refine (HSt.out _ _).mono ?_
    rintro e w2 ⟨rfl, rfl⟩
    go_wp2
    go_ret
    exact ⟨ret_int HE.out, HB1.out⟩
  · rw [if_neg hle, if_neg hle] at HSc
    rw [if_neg hle] at HE
    clear hle
    by_cases hc : (a < 0) = (m < 0)
    · rw [if_pos hc] at HE
      have hd : (decide (a < 0) == decide (m < 0)) = true := by simp [hc]
      have hd2 : decide (¬ decide (a < 0) = decide (m < 0)) = false := by simp [hc]
      clear hc
      go_enter Try.func29, Try.ntmps29
      go_wp2_with fail
      refine (HSc.out _).mono ?_
      rintro e w1 ⟨rfl, hb1⟩
      have HB1 := Lib.hid hb1
      clear hb1
      go_wp2_with fail
      refine (HSt.out _ _).mono ?_
      rintro e w2 ⟨rfl, rfl⟩
      go_wp2
      go_ret
      exact ⟨ret_int HE.out, HB1.out⟩
    · rw [if_neg hc] at HE
      have hdn : ¬ decide (a < 0) = decide (m < 0) := by simp only [decide_eq_decide]; rw [eq_iff_iff] at hc; exact hc
      have hd : (decide (a < 0) == decide (m < 0)) = false := by rw [beq_eq_false_iff_ne]; exact hdn
      have hd2 : decide (¬ decide (a < 0) = decide (m < 0)) = true := decide_eq_true hdn
      clear hc hdn
      go_enter Try.func29, Try.ntmps29
      go_wp2_with fail
      refine (HSc.out _).mono ?_
      rintro e w1 ⟨rfl, hb1⟩
      have HB1 := Lib.hid hb1
      clear hb1
      go_wp2_with fail
      refine (HSt.out _ _).mono ?_
      rintro e w2 ⟨rfl, rfl⟩
      go_wp2
      go_ret
      exact ⟨ret_int HE.out, HB1.out⟩

end Go.Proofs.Ythlmgejikbmmaaa

/-
  The walk of KernelScale: by contract.
-/
namespace Go.Proofs.Ythlmgejikbmmaaa
open Go.RowKit

def scaG (mul : Int) (sh q n : Nat) (B : Nat) (i : Nat) (v : Value) (w : World) : Prop :=
  match i with
  | 0 => v = .int .i64 (n : Int)
  | 1 => v = .int .i64 (n : Int)
  | 2 => RowT B 3 (#[.int .i64 (n : Int), .int .i64 (n : Int)]) (2) v w
  | 3 => v = .int .i64 mul
  | 4 => v = .int .u8 (sh : Int)
  | 5 => v = .int .i64 (sh : Int)
  | 6 => v = .int .i64 (q : Int)
  | 7 => v = .agg #[.int .i64 7, .int .i64 1, .int .i64 0, .int .i64 0, .int .i64 0, .int .i64 0, .slice none 0 0, .slice none 0 0, .slice none 0 0, .int .i64 mul, .int .i64 (q : Int)]
  | 8 => RowT B 50 (#[.int .i64 7, .int .i64 1, .int .i64 0, .int .i64 0, .int .i64 0, .int .i64 0, .slice none 0 0, .slice none 0 0, .slice none 0 0, .int .i64 mul, .int .i64 (q : Int)]) (1) v w
  | 9 => v = .int .i64 (n : Int)
  | 10 => RowT B 78 (madeCells #[.bool false, .slice none 0 0, .slice none 0 0] (n * 3)) (n) v w
  | 11 => v = .int .i64 (n : Int)
  | 12 => RowT B 78 (madeCells #[.bool false, .slice none 0 0, .slice none 0 0] (n * 3)) (n) v w
  | 13 => v = .int .i64 (n : Int)
  | 14 => RowT B 78 (madeCells #[.bool false, .slice none 0 0, .slice none 0 0] (n * 3)) (n) v w
  | 15 => ∃ r2 r8 r10 r12 r14, RowT B 3 (#[.int .i64 (n : Int), .int .i64 (n : Int)]) (2) r2 w ∧ RowT B 50 (#[.int .i64 7, .int .i64 1, .int .i64 0, .int .i64 0, .int .i64 0, .int .i64 0, .slice none 0 0, .slice none 0 0, .slice none 0 0, .int .i64 mul, .int .i64 (q : Int)]) (1) r8 w ∧ RowT B 78 (madeCells #[.bool false, .slice none 0 0, .slice none 0 0] (n * 3)) (n) r10 w ∧ RowT B 78 (madeCells #[.bool false, .slice none 0 0, .slice none 0 0] (n * 3)) (n) r12 w ∧ RowT B 78 (madeCells #[.bool false, .slice none 0 0, .slice none 0 0] (n * 3)) (n) r14 w ∧ v = .agg #[r2, r8, .int .i64 1, .int .i64 0, .int .i64 0, r10, r12, r14]
  | 16 => CellT B 45 #[.slice none 0 0, .slice none 0 0, .int .i64 0, .int .i64 0, .int .i64 0, .slice none 0 0, .slice none 0 0, .slice none 0 0] v w
  | _ => True
theorem scaG_below {mul : Int} {sh q n : Nat} {B i : Nat} {v : Value} {w w' : World} (h : scaG mul sh q n B i v w) (hb : Below w.heap.size w w') : scaG mul sh q n B i v w' := by
  match i, h with
  | 0, h => exact h
  | 1, h => exact h
  | 2, h => exact RowT.below h hb
  | 3, h => exact h
  | 4, h => exact h
  | 5, h => exact h
  | 6, h => exact h
  | 7, h => exact h
  | 8, h => exact RowT.below h hb
  | 9, h => exact h
  | 10, h => exact RowT.below h hb
  | 11, h => exact h
  | 12, h => exact RowT.below h hb
  | 13, h => exact h
  | 14, h => exact RowT.below h hb
  | 15, ⟨r2, r8, r10, r12, r14, h2, h8, h10, h12, h14, hv⟩ => exact ⟨r2, r8, r10, r12, r14, h2.below hb, h8.below hb, h10.below hb, h12.below hb, h14.below hb, hv⟩
  | 16, h => exact CellT.below h hb
  | _ + 17, _ => trivial

/-- The kernel of the statement. -/
def sclK (mul : Int) (q n : Nat) : KerL := ⟨[n, n], [⟨7, 1, 0, 0, 0, 0, [], [], [], mul, q⟩], 1, 0, 0, List.replicate n zeroR, List.replicate n zeroR, List.replicate n zeroR⟩
def ScaCut (w1 : World) (mul : Int) (q n : Nat) (s8 : Value) (wx : World) : Prop := ∃ g, s8 = .pointer (some ⟨g, 0, none⟩) ∧ (w1.heap.size ≤ g) ∧ Below w1.heap.size w1 wx ∧ KBox wx g (sclK mul q n)
set_option maxRecDepth 10000 in
theorem scaCut_mk {w1 W : World} {mul : Int} {q n gp b2 b8 b10 b12 b14 : Nat} {cs : Array Value} (hcs : cs.size = 8) (hn : n ≤ 1000000) (hR : From w1.heap.size w1 W) (hgp : w1.heap.size ≤ gp) (hblk : W.heap[gp]? = some (.cells cs 45 (0, 0)))
    (k2 : RowT w1.heap.size 3 #[.int .i64 (n : Int), .int .i64 (n : Int)] 2 (.slice (some ⟨b2, 0, none⟩) 2 2) W)
    (k8 : RowT w1.heap.size 50 #[.int .i64 7, .int .i64 1, .int .i64 0, .int .i64 0, .int .i64 0, .int .i64 0, .slice none 0 0, .slice none 0 0, .slice none 0 0, .int .i64 mul, .int .i64 (q : Int)] 1 (.slice (some ⟨b8, 0, none⟩) 1 1) W)
    (k10 : RowT w1.heap.size 78 (madeCells #[.bool false, .slice none 0 0, .slice none 0 0] (n * 3)) n (.slice (some ⟨b10, 0, none⟩) n n) W)
    (k12 : RowT w1.heap.size 78 (madeCells #[.bool false, .slice none 0 0, .slice none 0 0] (n * 3)) n (.slice (some ⟨b12, 0, none⟩) n n) W)
    (k14 : RowT w1.heap.size 78 (madeCells #[.bool false, .slice none 0 0, .slice none 0 0] (n * 3)) n (.slice (some ⟨b14, 0, none⟩) n n) W) :
    Hid (ScaCut w1 mul q n (.pointer (some ⟨gp, 0, none⟩)) (setRow gp W 0 [.slice (some ⟨b2, 0, none⟩) 2 2, .slice (some ⟨b8, 0, none⟩) 1 1, .int .i64 1, .int .i64 0, .int .i64 0, .slice (some ⟨b10, 0, none⟩) n n, .slice (some ⟨b12, 0, none⟩) n n, .slice (some ⟨b14, 0, none⟩) n n])) := by
  have hbe : Below w1.heap.size w1 (setRow gp W 0 [.slice (some ⟨b2, 0, none⟩) 2 2, .slice (some ⟨b8, 0, none⟩) 1 1, .int .i64 1, .int .i64 0, .int .i64 0, .slice (some ⟨b10, 0, none⟩) n n, .slice (some ⟨b12, 0, none⟩) n n, .slice (some ⟨b14, 0, none⟩) n n]) := setRow_below hgp _ _ _ hR.be
  refine ⟨gp, rfl, hgp, hbe, ?_⟩
  have h2 := (k2.setRow hblk (by decide) [.slice (some ⟨b2, 0, none⟩) 2 2, .slice (some ⟨b8, 0, none⟩) 1 1, .int .i64 1, .int .i64 0, .int .i64 0, .slice (some ⟨b10, 0, none⟩) n n, .slice (some ⟨b12, 0, none⟩) n n, .slice (some ⟨b14, 0, none⟩) n n])
  have h8 := (k8.setRow hblk (by decide) [.slice (some ⟨b2, 0, none⟩) 2 2, .slice (some ⟨b8, 0, none⟩) 1 1, .int .i64 1, .int .i64 0, .int .i64 0, .slice (some ⟨b10, 0, none⟩) n n, .slice (some ⟨b12, 0, none⟩) n n, .slice (some ⟨b14, 0, none⟩) n n])
  have h10 := (k10.setRow hblk (by decide) [.slice (some ⟨b2, 0, none⟩) 2 2, .slice (some ⟨b8, 0, none⟩) 1 1, .int .i64 1, .int .i64 0, .int .i64 0, .slice (some ⟨b10, 0, none⟩) n n, .slice (some ⟨b12, 0, none⟩) n n, .slice (some ⟨b14, 0, none⟩) n n])
  have h12 := (k12.setRow hblk (by decide) [.slice (some ⟨b2, 0, none⟩) 2 2, .slice (some ⟨b8, 0, none⟩) 1 1, .int .i64 1, .int .i64 0, .int .i64 0, .slice (some ⟨b10, 0, none⟩) n n, .slice (some ⟨b12, 0, none⟩) n n, .slice (some ⟨b14, 0, none⟩) n n])
  have h14 := (k14.setRow hblk (by decide) [.slice (some ⟨b2, 0, none⟩) 2 2, .slice (some ⟨b8, 0, none⟩) 1 1, .int .i64 1, .int .i64 0, .int .i64 0, .slice (some ⟨b10, 0, none⟩) n n, .slice (some ⟨b12, 0, none⟩) n n, .slice (some ⟨b14, 0, none⟩) n n])
  have hbk := setRow_all (l := [.slice (some ⟨b2, 0, none⟩) 2 2, .slice (some ⟨b8, 0, none⟩) 1 1, .int .i64 1, .int .i64 0, .int .i64 0, .slice (some ⟨b10, 0, none⟩) n n, .slice (some ⟨b12, 0, none⟩) n n, .slice (some ⟨b14, 0, none⟩) n n]) hblk (by rw [hcs]; rfl)
  clear hbe k2 k8 k10 k12 k14 hblk hR
  generalize setRow gp W 0 _ = W' at *
  obtain ⟨a2, e2, i2⟩ := (h2.row).ints (l := [(n : Int), (n : Int)]) rfl (by simp [I64]; omega) (by simp)
  obtain ⟨a10, e10, i10⟩ := (h10.row).rats (by omega)
  obtain ⟨a12, e12, i12⟩ := (h12.row).rats (by omega)
  obtain ⟨a14, e14, i14⟩ := (h14.row).rats (by omega)
  obtain ⟨g8, _, e8, hg8⟩ := h8
  cases e2; cases e8; cases e10; cases e12; cases e14
  have h5 : OpsAt W' (some ⟨b8, 0, none⟩) [⟨7, 1, 0, 0, 0, 0, [], [], [], mul, q⟩] := by
    refine OpsAt.one (o := ⟨7, 1, 0, 0, 0, 0, [], [], [], mul, q⟩) (a1 := none) (c1 := 0) (a2 := none) (c2 := 0) (a3 := none) (c3 := 0) (T := 50) hg8 ?_
    exact ⟨none, none, none, 0, 0, 0, rfl, Ints.nil _ _ _, Ints.nil _ _ _, Ints.nil _ _ _, by simp, by simp, by simp⟩
  exact ⟨_, _, _, _, _, _, _, _, Box8.of_block hbk, ⟨some ⟨b2, 0, none⟩, _, _, _, _, 2, 1, n, n, n, by simp [sclK], i2, h5, i10, i12, i14⟩⟩

theorem sclK_WF {mul : Int} (hm : I64 mul) {q n : Nat} : KerL.WF (sclK mul q n) := by
  have hz : ∀ m, ∀ x ∈ List.replicate m zeroR, x.Short := by
    intro m x hx
    rw [List.eq_of_mem_replicate hx]
    exact ⟨by simp [zeroR], by simp [zeroR]⟩
  refine ⟨?_, by simp [sclK, I64], hz _, hz _, hz _⟩
  intro o ho
  simp only [sclK, List.mem_cons, List.not_mem_nil, or_false] at ho
  subst ho
  exact ⟨by simp [I64], by simp [I64], by simp [I64], hm⟩
theorem sclK_valid {mul : Int} {q n : Nat} (h1 : 1 ≤ n) (h2 : n ≤ 20) (hq : q ≤ 62) : validK (sclK mul q n) = true := by
  have hb : boundsL (sclK mul q n) = true := bounds_zero (a := n) (b := n) (c := n) rfl rfl rfl rfl rfl rfl
  have e1 : wthn (n : Int) 1 262144 = true := wthn_iff.2 ⟨by omega, by omega⟩
  have hf : fitsL ⟨7, 1, 0, 0, 0, 0, [], [], [], mul, q⟩ (n : Int) (n : Int) 0 = true := by
    unfold fitsL
    rw [if_neg (by simp), if_neg (by simp), if_neg (by simp), if_neg (by simp), if_neg (by simp), if_pos rfl, decide_eq_true_eq]
    exact ⟨rfl, rfl, rfl, rfl, rfl, rfl, rfl, by simp only; omega, by simp only; omega⟩
  have ho : opOK [(n : Int), (n : Int)] (putS (fun _ => false) 0) ⟨7, 1, 0, 0, 0, 0, [], [], [], mul, q⟩ = true := by
    unfold opOK
    simp only [Bool.and_eq_true]
    exact ⟨rfl, rfl, rfl, rfl, hf⟩
  have hr : opsRun (sclK mul q n).sizes (sclK mul q n).ops = some (putS (putS (fun _ => false) 0) 1) := by
    exact if_pos ho
  unfold validK
  rw [hr]
  simp only [Bool.and_eq_true, decide_eq_true_eq]
  refine ⟨by simp [sclK, wthn], by simp [sclK], ?_, ?_⟩
  · simp only [sclK, List.all_cons, List.all_nil, Bool.and_true, e1, Bool.and_self]
  · unfold tailOK
    rw [hb]
    rfl
theorem sclK_out {mul : Int} {q n : Nat} {inp : List Int} : outL (sclK mul q n) inp = inp.map (fun x => scaleL x mul q) := by
  show ([List.replicate ((n : Int)).toNat (0 : Int), List.replicate ((n : Int)).toNat 0].set 0 inp |>.set 1 (doL _ (List.replicate ((n : Int)).toNat 0) inp inp)).getD 1 [] = _
  simp [doL]
theorem keep2 {W w' : World} {p q : Addr} {u v : Value} (hp : W.cell? p = some u) (hq : W.cell? q = some v) (h1 : p.block < W.heap.size) (h2 : q.block < W.heap.size) (hb : Below W.heap.size W w') : w'.cell? p = some u ∧ w'.cell? q = some v :=
  ⟨(hb.cell h1).trans hp, (hb.cell h2).trans hq⟩

set_option maxRecDepth 100000 in
set_option maxHeartbeats 3200000 in
theorem lawScale {w : World} {ai : Option Addr} {X : List Int} (ci : Nat) (hX : Ints w Any ai X) (mul : Int) (hm : I64 mul) (sh : Nat) (hsh : sh ≤ 255) :
    Calls Try.prog 11 #[.slice ai X.length ci, .int .i64 mul, .int .u8 (sh : Int)] w fun e w' => e = .returned (.bool true) ∧ Below w.heap.size w w' := by
  have lx := hX.len
  have HX := Lib.hid hX
  have HM := Lib.hid hm
  obtain ⟨hm1, hm2⟩ := hm
  obtain ⟨q, hq⟩ : ∃ q : Nat, q = sh % 63 := ⟨_, rfl⟩
  have hq62 : q ≤ 62 := by omega
  have hqi : (sh : Int) % 63 = (q : Int) := by omega
  have hqt : Int.tmod (sh : Int) 63 = (q : Int) := by rw [Int.tmod_eq_emod_of_nonneg (by omega)]; exact hqi
  clear hX hq
  go_enter Try.func11, Try.ntmps11
  go_wp2_with fail
  refine (kAwake w).mono ?_
  rintro e w1 ⟨rfl, hb1⟩
  have HB1 := Lib.hid hb1
  have HX1 := Lib.hid (HX.out.below hb1)
  have hbs := hb1.size
  clear hb1 HX
  have ret : ∀ {w' : World}, Below w1.heap.size w1 w' → Below w.heap.size w w' := fun h => HB1.out.trans (h.mono hbs)
  by_cases c1 : 1 ≤ X.length ∧ X.length ≤ 20
  · obtain ⟨c1a, c1b⟩ := c1
    have d1 : decide ((X.length : Int) < 1) = false := decide_eq_false (by omega)
    have d2 : decide (20 < (X.length : Int)) = false := decide_eq_false (by omega)
    go_upto_region 6 with fail
    go_cut [8] (fun s8 wx => Hid (ScaCut w1 mul q X.length s8 wx))
    case first =>
      generalize hnn : X.length = n at *
      clear hnn
      refine wp_region_slots_lit (by kernel_rfl) (by kernel_rfl) (by kernel_rfl) (by kernel_rfl) (by kernel_rfl) (From w1.heap.size w1) (fun w w' => Below w.heap.size w w') (scaG mul sh q n w1.heap.size) (fun i v w w' h hb => scaG_below h hb) (From.start (by first | exact Nat.le_refl _ | (simp; done) | omega)) ?_ ?_
      · intro ops
        simp only [List.dropLast, Shows]
        refine ⟨?_, ?_, ?_, ?_, ?_, ?_, ?_, ?_, ?_, ?_, ?_, ?_, ?_, ?_, ?_, ?_, ?_, trivial⟩
        · intro g W hR hL
          have hB := hR.base
          simp only [Laid, Region.binds, forall_const, Bool.false_eq_true, false_implies, scaG] at hL
          simp [fillFrom, Act.put]
          clear hL
          have HR := Lib.hid hR
          clear hR
          go_wp2
          exact ⟨_, rfl, HR.out, Below.refl _ _, rfl⟩
        · intro g W hR hL
          have hB := hR.base
          simp only [Laid, Region.binds, forall_const, Bool.false_eq_true, false_implies, scaG] at hL
          simp [fillFrom, Act.put]
          clear hL
          have HR := Lib.hid hR
          clear hR
          go_wp2
          exact ⟨_, rfl, HR.out, Below.refl _ _, rfl⟩
        · intro g W hR hL
          have hB := hR.base
          simp only [Laid, Region.binds, forall_const, Bool.false_eq_true, false_implies, scaG] at hL
          simp [fillFrom, Act.put]
          generalize g 0 = y0 at hL ⊢
          generalize g 1 = y1 at hL ⊢
          obtain ⟨rfl, rfl, _⟩ := hL
          have HR := Lib.hid hR
          clear hR
          go_wp2
          have hal := (Below.refl W.heap.size W).alloc (Nat.le_refl _)
          exact ⟨_, rfl, HR.out.alloc _, hal _, RowT.alloc hB _ _ _⟩
        · intro g W hR hL
          have hB := hR.base
          simp only [Laid, Region.binds, forall_const, Bool.false_eq_true, false_implies, scaG] at hL
          simp [fillFrom, Act.put]
          clear hL
          have HR := Lib.hid hR
          clear hR
          go_wp2
          exact ⟨_, rfl, HR.out, Below.refl _ _, rfl⟩
        · intro g W hR hL
          have hB := hR.base
          simp only [Laid, Region.binds, forall_const, Bool.false_eq_true, false_implies, scaG] at hL
          simp [fillFrom, Act.put]
          clear hL
          have HR := Lib.hid hR
          clear hR
          go_wp2
          exact ⟨_, rfl, HR.out, Below.refl _ _, rfl⟩
        · intro g W hR hL
          have hB := hR.base
          simp only [Laid, Region.binds, forall_const, Bool.false_eq_true, false_implies, scaG] at hL
          simp [fillFrom, Act.put]
          generalize g 4 = y4 at hL ⊢
          obtain ⟨rfl, _⟩ := hL
          have HR := Lib.hid hR
          clear hR
          go_wp2
          exact ⟨_, rfl, HR.out, Below.refl _ _, rfl⟩
        · intro g W hR hL
          have hB := hR.base
          simp only [Laid, Region.binds, forall_const, Bool.false_eq_true, false_implies, scaG] at hL
          simp [fillFrom, Act.put]
          generalize g 5 = y5 at hL ⊢
          obtain ⟨rfl, _⟩ := hL
          have HR := Lib.hid hR
          clear hR
          go_wp2
          exact ⟨_, rfl, HR.out, Below.refl _ _, rfl⟩
        · intro g W hR hL
          have hB := hR.base
          simp only [Laid, Region.binds, forall_const, Bool.false_eq_true, false_implies, scaG] at hL
          simp [fillFrom, Act.put]
          generalize g 3 = y3 at hL ⊢
          generalize g 6 = y6 at hL ⊢
          obtain ⟨rfl, rfl, _⟩ := hL
          have HR := Lib.hid hR
          clear hR
          go_wp2
          exact ⟨_, rfl, HR.out, Below.refl _ _, rfl⟩
        · intro g W hR hL
          have hB := hR.base
          simp only [Laid, Region.binds, forall_const, Bool.false_eq_true, false_implies, scaG] at hL
          simp [fillFrom, Act.put]
          generalize g 7 = y7 at hL ⊢
          obtain ⟨rfl, _⟩ := hL
          have HR := Lib.hid hR
          clear hR
          go_wp2
          have hal := (Below.refl W.heap.size W).alloc (Nat.le_refl _)
          exact ⟨_, rfl, HR.out.alloc _, hal _, RowT.alloc hB _ _ _⟩
        · intro g W hR hL
          have hB := hR.base
          simp only [Laid, Region.binds, forall_const, Bool.false_eq_true, false_implies, scaG] at hL
          simp [fillFrom, Act.put]
          clear hL
          have HR := Lib.hid hR
          clear hR
          go_wp2
          exact ⟨_, rfl, HR.out, Below.refl _ _, rfl⟩
        · intro g W hR hL
          have hB := hR.base
          simp only [Laid, Region.binds, forall_const, Bool.false_eq_true, false_implies, scaG] at hL
          simp [fillFrom, Act.put]
          generalize g 9 = y9 at hL ⊢
          obtain ⟨rfl, _, _⟩ := hL
          have HR := Lib.hid hR
          clear hR
          have hmk := mkRatsM n (by omega)
          go_wp2
          have hal := (Below.refl W.heap.size W).alloc (Nat.le_refl _)
          exact ⟨_, rfl, HR.out.alloc _, hal _, RowT.alloc hB _ _ _⟩
        · intro g W hR hL
          have hB := hR.base
          simp only [Laid, Region.binds, forall_const, Bool.false_eq_true, false_implies, scaG] at hL
          simp [fillFrom, Act.put]
          clear hL
          have HR := Lib.hid hR
          clear hR
          go_wp2
          exact ⟨_, rfl, HR.out, Below.refl _ _, rfl⟩
        · intro g W hR hL
          have hB := hR.base
          simp only [Laid, Region.binds, forall_const, Bool.false_eq_true, false_implies, scaG] at hL
          simp [fillFrom, Act.put]
          generalize g 11 = y11 at hL ⊢
          obtain ⟨rfl, _, _⟩ := hL
          have HR := Lib.hid hR
          clear hR
          have hmk := mkRatsM n (by omega)
          go_wp2
          have hal := (Below.refl W.heap.size W).alloc (Nat.le_refl _)
          exact ⟨_, rfl, HR.out.alloc _, hal _, RowT.alloc hB _ _ _⟩
        · intro g W hR hL
          have hB := hR.base
          simp only [Laid, Region.binds, forall_const, Bool.false_eq_true, false_implies, scaG] at hL
          simp [fillFrom, Act.put]
          clear hL
          have HR := Lib.hid hR
          clear hR
          go_wp2
          exact ⟨_, rfl, HR.out, Below.refl _ _, rfl⟩
        · intro g W hR hL
          have hB := hR.base
          simp only [Laid, Region.binds, forall_const, Bool.false_eq_true, false_implies, scaG] at hL
          simp [fillFrom, Act.put]
          generalize g 13 = y13 at hL ⊢
          obtain ⟨rfl, _, _⟩ := hL
          have HR := Lib.hid hR
          clear hR
          have hmk := mkRatsM n (by omega)
          go_wp2
          have hal := (Below.refl W.heap.size W).alloc (Nat.le_refl _)
          exact ⟨_, rfl, HR.out.alloc _, hal _, RowT.alloc hB _ _ _⟩
        · intro g W hR hL
          have hB := hR.base
          simp only [Laid, Region.binds, forall_const, Bool.false_eq_true, false_implies, scaG] at hL
          simp [fillFrom, Act.put]
          generalize g 2 = y2 at hL ⊢
          generalize g 8 = y8 at hL ⊢
          generalize g 10 = y10 at hL ⊢
          generalize g 12 = y12 at hL ⊢
          generalize g 14 = y14 at hL ⊢
          obtain ⟨H2, H8, H10, H12, H14, _⟩ := hL
          have K2 := Lib.hid H2
          have K8 := Lib.hid H8
          have K10 := Lib.hid H10
          have K12 := Lib.hid H12
          have K14 := Lib.hid H14
          obtain ⟨b2, p2, rfl, q2⟩ := H2
          obtain ⟨b8, p8, rfl, q8⟩ := H8
          obtain ⟨b10, p10, rfl, q10⟩ := H10
          obtain ⟨b12, p12, rfl, q12⟩ := H12
          obtain ⟨b14, p14, rfl, q14⟩ := H14
          have HR := Lib.hid hR
          clear hR p2 q2 p8 q8 p10 q10 p12 q12 p14 q14
          go_wp2
          exact ⟨_, rfl, HR.out, Below.refl _ _, _, _, _, _, _, K2.out, K8.out, K10.out, K12.out, K14.out, rfl⟩
        · intro g W hR hL
          have hB := hR.base
          simp only [Laid, Region.binds, forall_const, Bool.false_eq_true, false_implies, scaG] at hL
          simp [fillFrom, Act.put]
          clear hL
          have HR := Lib.hid hR
          clear hR
          go_wp2
          exact ⟨_, rfl, HR.out.alloc _, (Below.refl W.heap.size W).alloc (Nat.le_refl _) _, CellT.alloc hB _ _⟩
      · intro ops g W hR hL
        simp only [List.dropLast, List.getLastD_cons, List.getLastD_nil, fillFrom, Act.put, List.length_cons, List.length_nil, Nat.reduceAdd, LaidAll] at hL ⊢
        have hB := hR.base
        have HV := hL.1.2
        have HP := hL.2
        simp only [scaG] at HV HP
        clear hL
        generalize g 15 = yv at HV ⊢
        generalize g 16 = yp at HP ⊢
        obtain ⟨r2, r8, r10, r12, r14, H2, H8, H10, H12, H14, rfl⟩ := HV
        obtain ⟨gp, hgp, rfl, hblk⟩ := HP
        have K2 := Lib.hid H2
        have K8 := Lib.hid H8
        have K10 := Lib.hid H10
        have K12 := Lib.hid H12
        have K14 := Lib.hid H14
        obtain ⟨b2, p2, rfl, q2⟩ := H2
        obtain ⟨b8, p8, rfl, q8⟩ := H8
        obtain ⟨b10, p10, rfl, q10⟩ := H10
        obtain ⟨b12, p12, rfl, q12⟩ := H12
        obtain ⟨b14, p14, rfl, q14⟩ := H14
        have HR := Lib.hid hR
        clear hR p2 q2 p8 q8 p10 q10 p12 q12 p14 q14
        have c0 : W.cell? ⟨gp, 0, none⟩ = some (.slice none 0 0) := by simp [World.cell?, hblk]
        have c1 : W.cell? ⟨gp, 1, none⟩ = some (.slice none 0 0) := by simp [World.cell?, hblk]
        have c2 : W.cell? ⟨gp, 2, none⟩ = some (.int .i64 0) := by simp [World.cell?, hblk]
        have c3 : W.cell? ⟨gp, 3, none⟩ = some (.int .i64 0) := by simp [World.cell?, hblk]
        have c4 : W.cell? ⟨gp, 4, none⟩ = some (.int .i64 0) := by simp [World.cell?, hblk]
        have c5 : W.cell? ⟨gp, 5, none⟩ = some (.slice none 0 0) := by simp [World.cell?, hblk]
        have c6 : W.cell? ⟨gp, 6, none⟩ = some (.slice none 0 0) := by simp [World.cell?, hblk]
        have c7 : W.cell? ⟨gp, 7, none⟩ = some (.slice none 0 0) := by simp [World.cell?, hblk]
        have fz : ∀ o, W.frozen? ⟨gp, o, none⟩ = false := fun o => by simp [World.frozen?, hblk]
        have HBk := Lib.hid hblk
        clear hblk
        go_wp2
        go_meet
        exact scaCut_mk rfl (by omega) HR.out hgp HBk.out K2.out K8.out K10.out K12.out K14.out

    case rest =>
      obtain ⟨gk, rfl, hgk, hbc, hK⟩ := hcut.out
      have HK := Lib.hid hK
      have HXc := Lib.hid (HX1.out.below hbc)
      have HBc := Lib.hid (ret hbc)
      have HV := Lib.hid (sclK_valid (mul := mul) c1a c1b hq62)
      clear hK hbc hcut HX1 ret
      obtain ⟨q0, q1, q2, q3, q4, q5, q6, q7, hbx8, hKV⟩ := HK.out
      obtain ⟨z0, z1, z2, z3, z4, z5, z6, z7, zlt⟩ := hbx8
      go_wp2_with fail
      refine (kOut hKV (sclK_WF HM.out) HXc.out).mono ?_
      intro e w2 hp
      rcases hp with ⟨hc1, hc2, hb2, aA, cA, rfl, hA⟩ | ⟨_, hc, _⟩ | ⟨hc, _⟩
      rotate_left
      · exact absurd (show (X.length : Int) = (sclK mul q X.length).sizes.getD 0 0 from rfl) hc
      · rw [HV.out] at hc; cases hc
      clear hc1 hc2
      rw [sclK_out] at hA ⊢
      obtain ⟨A, hAe⟩ : ∃ A, A = X.map (fun x => scaleL x mul q) := ⟨_, rfl⟩
      rw [← hAe] at hA ⊢
      have hAl : A.length = X.length := by rw [hAe, List.length_map]
      have HAg : Hid (∀ k, k < X.length → A.getD k 0 = scaleL (X.getD k 0) mul q) := fun k hk => by rw [hAe, map_getD hk]
      have HA := Lib.hid hA
      have HX2 := Lib.hid (HXc.out.below hb2)
      have HB2 := Lib.hid (HBc.out.trans (hb2.mono HBc.out.size))
      clear hA hb2 hKV z0 z1 z2 z3 z4 z5 z6 z7 zlt HK HXc HBc hAe
      go_wp2
      go_loopw [11] (fun i wr => ∃ k : Nat, k ≤ X.length ∧ i = .int .i64 (k : Int) ∧ Hid (Below w2.heap.size w2 wr)) (fun i _ => X.length - (intOf i).toNat)
      case atStart => exact ⟨0, Nat.zero_le _, rfl, Below.refl _ _⟩
      case round =>
        obtain ⟨k, hk, rfl, hBw⟩ := hrel
        by_cases hlt : k < X.length
        · obtain ⟨ba, oa, rfl, _, hba, hca⟩ := (HA.out.below hBw.out).cells (show k < A.length by omega)
          obtain ⟨bx, ox, rfl, _, hbx, hcx⟩ := (HX2.out.below hBw.out).cells hlt
          have cA : wr.cell? ⟨ba, oa + k, none⟩ = _ := hca k (by omega)
          have cX : wr.cell? ⟨bx, ox + k, none⟩ = _ := hcx k hlt
          rw [HAg.out k hlt] at cA
          have hxr := getD_I64 HX2.out.wf k
          have HSc := Lib.hid (fun W => xScaled (X.getD k 0) mul hxr HM.out q hq62 W)
          generalize X.getD k 0 = x at *
          generalize scaleL x mul q = y at *
          have hne : decide (¬ y = y) = false := by simp
          obtain ⟨hx1, hx2⟩ := hxr
          have xbl : Below wr.heap.size wr wr.drew := (Below.refl _ _).drew
          clear hca hcx
          have eA := ext_cell cA hba
          have eX := ext_cell cX hbx
          have hne2 : (y == y) = true := by simp
          go_wp2
          refine wp_region_quiet_ext (by kernel_rfl) (by kernel_rfl) ?_
          repeat (go_big_quiet_step (first | (go_at_call 29; with_reducible exact Calls.ext_of (HSc.out _))))
          refine wpQuiet_nil ?_
          intro _ hw'
          obtain ⟨nq, hw''⟩ := hw'
          subst hw''
          have HEW := Lib.hid (hBw.out.trans ((ext_below wr nq).mono hBw.out.size))
          generalize ext wr nq = w3 at *
          go_wp2
          go_roundw
          case rel => exact ⟨k + 1, hlt, by go_num, HEW.out⟩
          case measure => simp [intOf]; omega
        · obtain rfl : k = X.length := by omega
          go_wp2
          go_ret
          exact ⟨rfl, HB2.out.trans (hBw.out.mono HB2.out.size)⟩
  · have c1' : X.length < 1 ∨ 20 < X.length := by omega
    clear c1
    rcases c1' with c1 | c1
    · have d1 : decide ((X.length : Int) < 1) = true := decide_eq_true (by omega)
      go_wp2
      go_ret
      exact ⟨rfl, HB1.out⟩
    · have d1 : decide ((X.length : Int) < 1) = false := decide_eq_false (by omega)
      have d2 : decide (20 < (X.length : Int)) = true := decide_eq_true (by omega)
      go_wp2
      go_ret
      exact ⟨rfl, HB1.out⟩

end Go.Proofs.Ythlmgejikbmmaaa

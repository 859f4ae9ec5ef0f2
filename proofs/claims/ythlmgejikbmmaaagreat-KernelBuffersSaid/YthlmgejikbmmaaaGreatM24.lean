/-
  Contracts of the functions that the statements reach, in the order in which they are built: RKD, RKE.
-/
import Derived.Test.YthlmgejikbmmaaaGreatM20
import Derived.Test.YthlmgejikbmmaaaGreatM11
import Derived.Test.YthlmgejikbmmaaaGreatM4
set_option linter.unusedVariables false
set_option linter.unusedSimpArgs false
set_option linter.constructorNameAsVariable false
set_option linter.deprecated false

/-
  The reference of layer 51: whole, Power, Saturate, shifted; the reference's Int of layer 2: by contract.
-/
namespace Go.Proofs.YthlmgejikbmmaaaGreat
open Go.RowKit

/-- A result's place. -/
structure ResR (w W : World) (g : Nat) : Prop where
  c : Box3 W g (.bool false) (.slice none 0 0) (.slice none 0 0)
  nc : NoInt W g
  bl : Below g w W
theorem ResR.mk' (w : World) (T : Nat) : ResR w (w.alloc (.cells #[.bool false, .slice none 0 0, .slice none 0 0] T)) w.heap.size :=
  ⟨Box3.alloc w _ _ _ T, NoInt.alloc w #[.bool false, .slice none 0 0, .slice none 0 0] T (by simp), (Below.refl _ _).alloc (Nat.le_refl _) _⟩
theorem ResR.below {w W W' : World} {g : Nat} (h : ResR w W g) (hb : Below W.heap.size W W') : ResR w W' g :=
  ⟨h.c.below hb, h.nc.below hb h.c.lt, h.bl.trans (hb.mono (Nat.le_of_lt h.c.lt))⟩

set_option maxRecDepth 100000 in
set_option maxHeartbeats 1600000 in
theorem x51whole (w : World) (a : Int) (ha : I64 a) : Calls Tryz.prog 54 #[.int .i64 a] w (RetR w (ratL (a : Rat))) := by
  obtain ⟨ha1, ha2⟩ := ha
  go_enter Tryz.func54, Tryz.ntmps54
  go_upto_region 1 with fail
  have hF := ResR.mk' w 44
  generalize w.alloc (.cells #[.bool false, .slice none 0 0, .slice none 0 0] 44) = W at *
  have HF := Lib.hid hF
  have HO := Lib.hid (r3Of W a ha1 ha2)
  clear hF
  go_wp2_with fail
  refine HO.out.mono ?_
  rintro e w5 ⟨v5, rfl, ⟨bn', bd', m1, m2, rfl, k3, k4, k5, k6⟩, k2⟩
  obtain ⟨r0, r1, r2, rf, rlt⟩ := HF.out.c.below k2
  have hN5 := Lib.hid (HF.out.nc.below k2 HF.out.c.lt)
  have K5 := Lib.hid k5
  have K6 := Lib.hid k6
  have hB5 := Lib.hid (HF.out.bl.trans (k2.mono (Nat.le_of_lt HF.out.c.lt)))
  clear HO k5 k6 k2
  generalize ratL (a : Rat) = R at *
  go_wp2
  exact bodyPost_ret (v := .agg #[.bool R.neg, .slice bn' R.num.length m1, .slice bd' R.den.length m2]) (by simp [results, Tryz.results54, go_sem, r0, r1, r2]) rfl ⟨_, rfl, RatV.store hN5.out k3 k4 K5.out K6.out, below_store3 hB5.out (Nat.le_refl _) _ _ _⟩

set_option maxHeartbeats 400000 in
theorem x51shifted (s : Nat) (hs : s ≤ 62) (w : World) : Calls Tryz.prog 51 #[.int .i64 (s : Int)] w fun e w' => e = .returned (.bool true) ∧ w = w' := by
  have d1 : decide ((s : Int) ≤ 62) = true := decide_eq_true (by omega)
  go_enter Tryz.func51, Tryz.ntmps51
  go_wp2
  go_ret
  exact ⟨rfl, rfl⟩

/-- A power of two, as a number. -/
def pw (n : Nat) : Rat := (((2 ^ n : Nat) : Int) : Rat)
theorem pw_succ (n : Nat) : pw n + pw n = pw (n + 1) := by
  unfold pw
  rw [← Rat.intCast_add]
  congr 1
  rw [Nat.pow_succ]
  omega
theorem pw_le {n : Nat} (h : n ≤ 63) : RatLe (ratL (pw n)) 2 := by
  have h2 : 2 ^ n < 4294967296 ^ 2 := Nat.lt_of_le_of_lt (Nat.pow_le_pow_right (by omega) h) (by decide)
  refine ⟨?_, ?_⟩
  · unfold pw
    rw [ratL_int]
    exact limbs_len_le (by simpa using h2)
  · unfold pw
    rw [ratL_int]
    simp
/-- While the power is made: the variable's block h holds it; the result's place g. -/
structure PowJ (w wr : World) (g h j : Nat) : Prop where
  r : ResR w wr g
  n : NoInt wr h
  b : ∃ p q r, Box3 wr h p q r ∧ RatV wr (.agg #[p, q, r]) (ratL (pw j))
  ne : g < h
theorem Box3.store {w : World} {g : Nat} {p q r : Value} (h : Box3 w g p q r) (p' q' r' : Value) : Box3 (((w.setCell ⟨g, 0, none⟩ p').setCell ⟨g, 1, none⟩ q').setCell ⟨g, 2, none⟩ r') g p' q' r' := by
  refine ⟨?_, ?_, ?_, ?_, by simpa using h.lt⟩
  · rw [World.cell?_setCell_other _ _ _ _ (by intro e; cases e), World.cell?_setCell_other _ _ _ _ (by intro e; cases e)]
    exact World.cell?_setCell_same _ _ _ h.c0
  · rw [World.cell?_setCell_other _ _ _ _ (by intro e; cases e)]
    refine World.cell?_setCell_same _ _ _ (u := q) ?_
    rw [World.cell?_setCell_other _ _ _ _ (by intro e; cases e)]
    exact h.c1
  · refine World.cell?_setCell_same _ _ _ (u := r) ?_
    rw [World.cell?_setCell_other _ _ _ _ (by intro e; cases e), World.cell?_setCell_other _ _ _ _ (by intro e; cases e)]
    exact h.c2
  · intro o
    simp [World.frozen?_setCell, h.free]
theorem Box3.far {w : World} {g h : Nat} {p q r : Value} (hb : Box3 w g p q r) (hne : h ≠ g) (o : Nat) (v : Value) : Box3 (w.setCell ⟨h, o, none⟩ v) g p q r :=
  ⟨(far2 hne).trans hb.c0, (far2 hne).trans hb.c1, (far2 hne).trans hb.c2, fun i => by simp [World.frozen?_setCell, hb.free], by simpa using hb.lt⟩
theorem ResR.far {w W : World} {g h : Nat} (r : ResR w W g) (hne : g < h) (o : Nat) (v : Value) : ResR w (W.setCell ⟨h, o, none⟩ v) g :=
  ⟨r.c.far (by omega) o v, r.nc.far (by omega) o v, r.bl.setCell (p := ⟨h, o, none⟩) (Nat.le_of_lt hne) v⟩
theorem PowJ.turn {w wr W : World} {g h j k : Nat} (H : PowJ w wr g h j) (hb : Below wr.heap.size wr W) {R : RatL} {bn bd : Option Addr} {m1 m2 : Nat} (h1 : R.num.length ≤ m1) (h2 : R.den.length ≤ m2) (k5 : U32s W bn R.num) (k6 : U32s W bd R.den) (hR : R = ratL (pw k)) :
    PowJ w (((W.setCell ⟨h, 0, none⟩ (.bool R.neg)).setCell ⟨h, 1, none⟩ (.slice bn R.num.length m1)).setCell ⟨h, 2, none⟩ (.slice bd R.den.length m2)) g h k := by
  obtain ⟨p, q, r, b1, _⟩ := H.b
  have hr := H.r.below hb
  have hn := H.n.below hb b1.lt
  refine ⟨((hr.far H.ne _ _).far H.ne _ _).far H.ne _ _, ((hn.setCell _ _ (by simp)).setCell _ _ (by simp)).setCell _ _ (by simp), ⟨_, _, _, (b1.below hb).store _ _ _, ?_⟩, H.ne⟩
  rw [← hR]
  exact RatV.store hn h1 h2 k5 k6
theorem PowJ.start {w W W1 : World} {g T : Nat} (H : ResR w W g) (hb : Below W.heap.size W W1) {R : RatL} {bn bd : Option Addr} {m1 m2 : Nat} (h1 : R.num.length ≤ m1) (h2 : R.den.length ≤ m2) (k5 : U32s W1 bn R.num) (k6 : U32s W1 bd R.den) (hR : R = ratL (pw 0)) :
    PowJ w (W1.alloc (.cells #[.bool R.neg, .slice bn R.num.length m1, .slice bd R.den.length m2] T)) g W1.heap.size 0 := by
  have hal : Below W1.heap.size W1 (W1.alloc (.cells #[.bool R.neg, .slice bn R.num.length m1, .slice bd R.den.length m2] T)) := (Below.refl _ _).alloc (Nat.le_refl _) _
  have hlt : g < W1.heap.size := Nat.lt_of_lt_of_le H.c.lt hb.size
  refine ⟨(H.below hb).below hal, NoInt.alloc W1 _ T (by simp), ⟨_, _, _, Box3.alloc W1 _ _ _ T, ?_⟩, hlt⟩
  rw [← hR]
  exact ⟨bn, bd, m1, m2, rfl, h1, h2, k5.below hal, k6.below hal⟩

set_option maxRecDepth 100000 in
set_option maxHeartbeats 3200000 in
theorem x51Power (w : World) (n : Nat) (hn : n ≤ 63) : Calls Tryz.prog 55 #[.int .i64 (n : Int)] w (RetR w (ratL (pw n))) := by
  go_enter Tryz.func55, Tryz.ntmps55
  go_upto_region 1 with fail
  have hF := ResR.mk' w 44
  generalize w.alloc (.cells #[.bool false, .slice none 0 0, .slice none 0 0] 44) = W at *
  have HF := Lib.hid hF
  have HO := Lib.hid (r3Of W 1 (by omega) (by omega))
  clear hF
  go_wp2_with fail
  refine HO.out.mono ?_
  rintro e w5 ⟨v5, rfl, ⟨bn', bd', m1, m2, rfl, k3, k4, k5, k6⟩, k2⟩
  have HP := Lib.hid (PowJ.start (T := 44) HF.out k2 k3 k4 k5 k6 rfl)
  clear HO k5 k6 k2 HF
  generalize ratL ((1 : Int) : Rat) = R at *
  go_upto_region 2 with fail
  generalize hh : w5.heap.size = h at *
  generalize w5.alloc (.cells #[.bool R.neg, .slice bn' R.num.length m1, .slice bd' R.den.length m2] 44) = W5 at *
  clear hh k3 k4
  go_wp2
  go_loopw [4] (fun i wr => ∃ j : Nat, j ≤ n ∧ i = .int .i64 (j : Int) ∧ Hid (PowJ w wr w.heap.size h j)) (fun i _ => n - (intOf i).toNat)
  case atStart => exact ⟨0, Nat.zero_le _, rfl, HP.out⟩
  case round =>
    obtain ⟨j, hj, rfl, HJ⟩ := hrel
    obtain ⟨p, q, r, ⟨b0, b1, b2, bf, blt⟩, hv⟩ := HJ.out.b
    by_cases hlt : j < n
    · have hA := r3Add hv hv ((pw_le (n := j) (by omega)).mono (by omega)) ((pw_le (n := j) (by omega)).mono (by omega))
      rw [ratOf_ratL, pw_succ] at hA
      have HA := Lib.hid hA
      clear hA hv
      go_wp2_with fail
      refine HA.out.mono ?_
      rintro e w6 ⟨v6, rfl, ⟨cn', cd', n1, n2, rfl, l3, l4, l5, l6⟩, l2⟩
      have HT := Lib.hid (HJ.out.turn l2 l3 l4 l5 l6 rfl)
      obtain ⟨p', q', r', hbx, _⟩ := HJ.out.b
      obtain ⟨b0', b1', b2', bf', blt'⟩ := hbx.below l2
      clear HA l5 l6 l2 hbx b0 b1 b2 bf blt HJ
      generalize ratL (pw (j + 1)) = R2 at *
      go_wp2
      go_roundw
      case rel => exact ⟨j + 1, hlt, by go_num, HT.out⟩
      case measure => simp [intOf]; omega
    · obtain rfl : j = n := by omega
      obtain ⟨an, ad, cn, cd, e0, g1, g2, g3, g4⟩ := hv.ex
      simp only [Value.agg.injEq, Array.mk.injEq, List.cons.injEq, and_true] at e0
      obtain ⟨rfl, rfl, rfl⟩ := e0
      obtain ⟨r0, r1, r2, rf, rlt⟩ := HJ.out.r.c
      have G3 := Lib.hid g3
      have G4 := Lib.hid g4
      have HN := Lib.hid HJ.out.r.nc
      have HB := Lib.hid HJ.out.r.bl
      clear g3 g4 hv HP HJ
      generalize ratL (pw j) = R2 at *
      go_wp2
      exact bodyPost_ret (v := .agg #[.bool R2.neg, .slice an R2.num.length cn, .slice ad R2.den.length cd]) (by simp [results, Tryz.results55, go_sem, r0, r1, r2]) rfl ⟨_, rfl, RatV.store HN.out g1 g2 G3.out G4.out, below_store3 HB.out (Nat.le_refl _) _ _ _⟩

set_option maxHeartbeats 800000 in
theorem x51Saturate (a : Int) (w : World) : Calls Tryz.prog 36 #[.int .i64 a, .int .i64 32] w fun e w' => e = .returned (.int .i64 (clamp32 a)) ∧ w = w' := by
  go_enter Tryz.func36, Tryz.ntmps36
  go_wp2
  go_loop [5, 6] (fun t i => ∃ j T : Nat, j ≤ 31 ∧ i = .int .i64 ((j : Int) + 1) ∧ t = .int .i64 (T : Int) ∧ Hid (T = 2 ^ j)) (fun t i => 32 - (intOf i).toNat)
  case atStart => exact ⟨0, 1, by omega, rfl, rfl, rfl⟩
  case round =>
    obtain ⟨j, T, hj, rfl, rfl, HT⟩ := hrel
    by_cases hlt : j < 31
    · have hb : T ≤ 1073741824 := by rw [HT.out]; exact Nat.le_trans (Nat.pow_le_pow_right (by omega) (show j ≤ 30 by omega)) (by decide)
      have d1 : decide ((j : Int) + 1 < 32) = true := decide_eq_true (by omega)
      go_wp2
      go_round
      case rel => exact ⟨j + 1, 2 * T, hlt, by go_num, by go_num, by unfold Hid; rw [HT.out, Nat.pow_succ]; omega⟩
      case measure => simp [intOf]; omega
    · obtain rfl : j = 31 := by omega
      obtain rfl : T = 2147483648 := by rw [HT.out]
      clear HT
      go_wp2
      go_ret
      exact ⟨rfl, rfl⟩

set_option maxRecDepth 100000 in
set_option maxHeartbeats 1600000 in
theorem r2Int {w : World} {v : Value} {z : Int} (hv : IntC w v z) (h1 : -4611686018427387904 ≤ z) (h2 : z ≤ 4611686018427387904) :
    Calls Tryz.prog 92 #[v] w fun e w' => e = .returned (.tuple #[.int .i64 z, .bool true]) ∧ Below w.heap.size w w' := by
  obtain ⟨a, c, rfl, g1, g2⟩ := hv.ex
  have hl := g2.len
  have G2 := Lib.hid g2
  clear hv g2
  go_enter Tryz.func92, Tryz.ntmps92
  go_upto_region 1 with fail
  have hX := Box2.alloc w (.bool (decide (z < 0))) (.slice a (limbs z.natAbs).length c) 71
  have hb : Below w.heap.size w (w.alloc (.cells #[.bool (decide (z < 0)), .slice a (limbs z.natAbs).length c] 71)) := (Below.refl _ _).alloc (Nat.le_refl _) _
  generalize w.alloc (.cells #[.bool (decide (z < 0)), .slice a (limbs z.natAbs).length c] 71) = W at *
  have HB := Lib.hid hb
  have HX := Lib.hid hX
  have hlen : (limbs z.natAbs).length ≤ 2 := limbs_len64 (by omega)
  have hU := r1Uint c g1 (G2.out.below hb) (lval_limbs z.natAbs) (by omega)
  rw [if_pos hlen] at hU
  have ho : uintOK z.natAbs = true := decide_eq_true hlen
  rw [ho] at hU
  have HU := Lib.hid hU
  obtain ⟨x0, x1, xf, xlt⟩ := hX
  clear hU hb ho
  go_wp2_with fail
  refine HU.out.mono ?_
  rintro e w1 ⟨rfl, hb1⟩
  have HB1 := Lib.hid (HB.out.trans (hb1.mono HB.out.size))
  have hx1 := HX.out.below hb1
  obtain ⟨x0, x1, xf, xlt⟩ := hx1
  clear hb1 HU G2
  have d1 : decide (9223372036854775808 < (z.natAbs : Int)) = false := decide_eq_false (by omega)
  have d2 : ((z.natAbs : Int) == 9223372036854775808) = false := by rw [beq_eq_false_iff_ne]; omega
  by_cases hz : z < 0
  · rw [decide_eq_true hz] at x0
    have HZ : Hid (wrap64 (IntKind.u64.wrap (-(z.natAbs : Int))) = z) := by
      unfold Hid
      rw [IntKind.wrap_u64]
      unfold wrap64
      omega
    generalize z.natAbs = m at *
    go_wp2
    go_ret2
    rw [HZ.out]
    exact ⟨rfl, HB1.out⟩
  · rw [decide_eq_false hz] at x0
    have HZ : Hid (wrap64 (z.natAbs : Int) = z) := by
      unfold Hid
      unfold wrap64
      omega
    generalize z.natAbs = m at *
    go_wp2
    go_ret2
    rw [HZ.out]
    exact ⟨rfl, HB1.out⟩

end Go.Proofs.YthlmgejikbmmaaaGreat

/-
  The reference's Floor of layer 3: by contract.
-/
namespace Go.Proofs.YthlmgejikbmmaaaGreat
open Go.RowKit

/-- Quotient and remainder of two numbers, in variables: what is so while the statement runs. -/
structure FlJ (W : World) (X : Value) (z : Int) (D kd : Nat) (d : Nat → Bool) (g : Nat → Value) (w : World) : Prop where
  bl : Below W.heap.size W w
  v0 : d 0 = true → g 0 = X
  v1 : d 1 = true → d 5 = false → IntC w (g 1) z
  v2 : d 2 = true → g 2 = X
  v3 : d 3 = true → d 5 = false → ∃ a c l, g 3 = .slice a (List.length l) c ∧ l.length ≤ c ∧ U32s w a l ∧ lval l = D ∧ l.length ≤ kd
  v4 : d 4 = true → d 5 = false → ∃ a c l, g 4 = .agg #[.bool false, .slice a (List.length l) c] ∧ l.length ≤ c ∧ U32s w a l ∧ lval l = D ∧ l.length ≤ kd
  v5 : d 5 = true → ∃ v u, g 5 = .tuple #[v, u, .int .i64 0] ∧ IntC w v (z / (D : Int)) ∧ IntC w u (z % (D : Int)) ∧ (d 6 = true → g 6 = .tuple #[v, u, .int .i64 0]) ∧ (d 7 = true → g 7 = v) ∧ (d 8 = true → g 8 = u) ∧ (d 9 = true → g 9 = .int .i64 0) ∧
    (d 12 = true → ∃ p b s, g 10 = .pointer (some ⟨p, 0, none⟩) ∧ v = .agg #[b, s] ∧ Box2 w p b s)
  v10 : d 10 = true → ∃ p b s, g 10 = .pointer (some ⟨p, 0, none⟩) ∧ W.heap.size ≤ p ∧ NoInt w p ∧ Box2 w p b s
  v11 : d 11 = true → ∃ p b s, g 11 = .pointer (some ⟨p, 0, none⟩) ∧ W.heap.size ≤ p ∧ NoInt w p ∧ Box2 w p b s
  ne : d 10 = true → d 11 = true → g 10 ≠ g 11
  e5 : d 5 = true → d 4 = true
  e6 : d 6 = true → d 5 = true
  e7 : d 7 = true → d 6 = true
  e8 : d 8 = true → d 6 = true
  e9 : d 9 = true → d 6 = true
  e12 : d 12 = true → d 5 = true ∧ d 10 = true
section
variable {W w : World} {X : Value} {z : Int} {D kd : Nat} {d : Nat → Bool} {g : Nat → Value}
theorem FlJ.start (hb : Below W.heap.size W w) (g : Nat → Value) : FlJ W X z D kd (fun _ => false) g w :=
  ⟨hb, fun h => absurd h (by decide), fun h => absurd h (by decide), fun h => absurd h (by decide), fun h => absurd h (by decide), fun h => absurd h (by decide), fun h => absurd h (by decide), fun h => absurd h (by decide), fun h => absurd h (by decide), fun h => absurd h (by decide), fun h => absurd h (by decide), fun h => absurd h (by decide), fun h => absurd h (by decide), fun h => absurd h (by decide), fun h => absurd h (by decide), fun h => absurd h (by decide)⟩
theorem FlJ.grow {w' : World} (h : FlJ W X z D kd d g w) (hb : Below w.heap.size w w') : FlJ W X z D kd d g w' :=
  ⟨h.bl.trans (hb.mono h.bl.size), h.v0, fun k1 k2 => (h.v1 k1 k2).below hb, h.v2,
   fun k1 k2 => let ⟨a, c, l, q1, q2, q3, q4⟩ := h.v3 k1 k2; ⟨a, c, l, q1, q2, q3.below hb, q4⟩,
   fun k1 k2 => let ⟨a, c, l, q1, q2, q3, q4⟩ := h.v4 k1 k2; ⟨a, c, l, q1, q2, q3.below hb, q4⟩,
   fun k => let ⟨v, u, q1, q2, q3, q4, q5, q6, q7, q8⟩ := h.v5 k; ⟨v, u, q1, q2.below hb, q3.below hb, q4, q5, q6, q7, fun k12 => let ⟨p, b, s, r1, r2, r3⟩ := q8 k12; ⟨p, b, s, r1, r2, r3.below hb⟩⟩,
   fun k => let ⟨p, b, s, q1, q2, q3, q4⟩ := h.v10 k; ⟨p, b, s, q1, q2, q3.below hb q4.lt, q4.below hb⟩,
   fun k => let ⟨p, b, s, q1, q2, q3, q4⟩ := h.v11 k; ⟨p, b, s, q1, q2, q3.below hb q4.lt, q4.below hb⟩,
   h.ne, h.e5, h.e6, h.e7, h.e8, h.e9, h.e12⟩
theorem FlJ.s0 (h : FlJ W X z D kd d g w) : FlJ W X z D kd (mark d 0) (upd g 0 X) w :=
  ⟨h.bl, fun _ => rfl, h.v1, h.v2, h.v3, h.v4, h.v5, h.v10, h.v11, h.ne, h.e5, h.e6, h.e7, h.e8, h.e9, h.e12⟩
theorem FlJ.s1 {v : Value} (h : FlJ W X z D kd d g w) (hv : IntC w v z) : FlJ W X z D kd (mark d 1) (upd g 1 v) w :=
  ⟨h.bl, h.v0, fun _ _ => hv, h.v2, h.v3, h.v4, h.v5, h.v10, h.v11, h.ne, h.e5, h.e6, h.e7, h.e8, h.e9, h.e12⟩
theorem FlJ.s2 (h : FlJ W X z D kd d g w) : FlJ W X z D kd (mark d 2) (upd g 2 X) w :=
  ⟨h.bl, h.v0, h.v1, fun _ => rfl, h.v3, h.v4, h.v5, h.v10, h.v11, h.ne, h.e5, h.e6, h.e7, h.e8, h.e9, h.e12⟩
theorem FlJ.s3 {a : Option Addr} {c : Nat} {l : List Nat} (h : FlJ W X z D kd d g w) (q2 : l.length ≤ c) (q3 : U32s w a l) (q4 : lval l = D) (q5 : l.length ≤ kd) : FlJ W X z D kd (mark d 3) (upd g 3 (.slice a l.length c)) w :=
  ⟨h.bl, h.v0, h.v1, h.v2, fun _ _ => ⟨a, c, l, rfl, q2, q3, q4, q5⟩, h.v4, h.v5, h.v10, h.v11, h.ne, h.e5, h.e6, h.e7, h.e8, h.e9, h.e12⟩
theorem FlJ.s4 {a : Option Addr} {c : Nat} {l : List Nat} (h : FlJ W X z D kd d g w) (q2 : l.length ≤ c) (q3 : U32s w a l) (q4 : lval l = D) (q5 : l.length ≤ kd) : FlJ W X z D kd (mark d 4) (upd g 4 (.agg #[.bool false, .slice a l.length c])) w :=
  ⟨h.bl, h.v0, h.v1, h.v2, h.v3, fun _ _ => ⟨a, c, l, rfl, q2, q3, q4, q5⟩, h.v5, h.v10, h.v11, h.ne, fun _ => rfl, h.e6, h.e7, h.e8, h.e9, h.e12⟩
theorem FlJ.s5 {v u : Value} (h : FlJ W X z D kd d g w) (h5 : d 5 = false) (h4 : d 4 = true) (q1 : IntC w v (z / (D : Int))) (q2 : IntC w u (z % (D : Int))) : FlJ W X z D kd (mark d 5) (upd g 5 (.tuple #[v, u, .int .i64 0])) w :=
  have n6 : ∀ {p : Prop}, d 6 = true → p := fun k => absurd ((h.e6 k).symm.trans h5) (by decide)
  ⟨h.bl, h.v0, fun _ k => Bool.noConfusion (show true = false from k), h.v2, fun _ k => Bool.noConfusion (show true = false from k), fun _ k => Bool.noConfusion (show true = false from k),
   fun _ => ⟨v, u, rfl, q1, q2, fun k => n6 k, fun k => n6 (h.e7 k), fun k => n6 (h.e8 k), fun k => n6 (h.e9 k), fun k => absurd ((h.e12 k).1.symm.trans h5) (by decide)⟩, h.v10, h.v11, h.ne, fun _ => h4, fun _ => rfl, h.e7, h.e8, h.e9, fun k => ⟨rfl, (h.e12 k).2⟩⟩
theorem FlJ.s6 (h : FlJ W X z D kd d g w) (h5 : d 5 = true) : FlJ W X z D kd (mark d 6) (upd g 6 (g 5)) w :=
  ⟨h.bl, h.v0, h.v1, h.v2, h.v3, h.v4, fun k => let ⟨v, u, q1, q2, q3, q4, q5, q6, q7, q8⟩ := h.v5 k; ⟨v, u, q1, q2, q3, fun _ => q1, q5, q6, q7, q8⟩, h.v10, h.v11, h.ne, h.e5, fun _ => h5, fun _ => rfl, fun _ => rfl, fun _ => rfl, h.e12⟩
theorem FlJ.five (h : FlJ W X z D kd d g w) (h5 : d 5 = true) : ∃ v u, g 5 = .tuple #[v, u, .int .i64 0] ∧ (d 6 = true → g 6 = .tuple #[v, u, .int .i64 0]) ∧ (d 7 = true → g 7 = v) ∧ (d 8 = true → g 8 = u) ∧
    (∀ v' , v' = v → FlJ W X z D kd (mark d 7) (upd g 7 v') w ∨ d 6 = false) ∧ (∀ u', u' = u → FlJ W X z D kd (mark d 8) (upd g 8 u') w ∨ d 6 = false) := by
  obtain ⟨v, u, q1, q2, q3, q4, q5, q6, q7, q8⟩ := h.v5 h5
  refine ⟨v, u, q1, q4, q5, q6, ?_, ?_⟩
  · rintro v' rfl
    cases h6 : d 6 with
    | false => exact .inr rfl
    | true => exact .inl ⟨h.bl, h.v0, h.v1, h.v2, h.v3, h.v4, fun _ => ⟨v', u, q1, q2, q3, q4, fun _ => rfl, q6, q7, q8⟩, h.v10, h.v11, h.ne, h.e5, h.e6, fun _ => h6, h.e8, h.e9, h.e12⟩
  · rintro u' rfl
    cases h6 : d 6 with
    | false => exact .inr rfl
    | true => exact .inl ⟨h.bl, h.v0, h.v1, h.v2, h.v3, h.v4, fun _ => ⟨v, u', q1, q2, q3, q4, q5, fun _ => rfl, q7, q8⟩, h.v10, h.v11, h.ne, h.e5, h.e6, h.e7, fun _ => h6, h.e9, h.e12⟩
theorem FlJ.s9 (h : FlJ W X z D kd d g w) (h6 : d 6 = true) : FlJ W X z D kd (mark d 9) (upd g 9 (.int .i64 0)) w :=
  ⟨h.bl, h.v0, h.v1, h.v2, h.v3, h.v4, fun k => let ⟨v, u, q1, q2, q3, q4, q5, q6, q7, q8⟩ := h.v5 k; ⟨v, u, q1, q2, q3, q4, q5, q6, fun _ => rfl, q8⟩, h.v10, h.v11, h.ne, h.e5, h.e6, h.e7, h.e8, fun _ => h6, h.e12⟩
theorem FlJ.s10 {T : Nat} (h : FlJ W X z D kd d g w) (h10 : d 10 = false) : FlJ W X z D kd (mark d 10) (upd g 10 (.pointer (some ⟨w.heap.size, 0, none⟩))) (w.alloc (.cells #[.bool false, .slice none 0 0] T)) :=
  have hb : Below w.heap.size w (w.alloc (.cells #[.bool false, .slice none 0 0] T)) := (Below.refl _ _).alloc (Nat.le_refl _) _
  have H := h.grow hb
  ⟨H.bl, H.v0, H.v1, H.v2, H.v3, H.v4, fun k => let ⟨v, u, q1, q2, q3, q4, q5, q6, q7, _⟩ := H.v5 k; ⟨v, u, q1, q2, q3, q4, q5, q6, q7, fun k12 => absurd ((h.e12 k12).2.symm.trans h10) (by decide)⟩,
   fun _ => ⟨w.heap.size, _, _, rfl, h.bl.size, NoInt.alloc w _ T (by simp), Box2.alloc w _ _ T⟩, H.v11,
   fun _ k e => let ⟨p, b, s, q1, _, _, q4⟩ := h.v11 k; by
     have e' : Value.pointer (some ⟨w.heap.size, 0, none⟩) = g 11 := e
     rw [q1] at e'
     cases e'
     exact absurd q4.lt (Nat.lt_irrefl _),
   H.e5, H.e6, H.e7, H.e8, H.e9, fun k => ⟨(h.e12 k).1, rfl⟩⟩
theorem FlJ.s11 {T : Nat} (h : FlJ W X z D kd d g w) : FlJ W X z D kd (mark d 11) (upd g 11 (.pointer (some ⟨w.heap.size, 0, none⟩))) (w.alloc (.cells #[.bool false, .slice none 0 0] T)) :=
  have hb : Below w.heap.size w (w.alloc (.cells #[.bool false, .slice none 0 0] T)) := (Below.refl _ _).alloc (Nat.le_refl _) _
  have H := h.grow hb
  ⟨H.bl, H.v0, H.v1, H.v2, H.v3, H.v4, H.v5, H.v10,
   fun _ => ⟨w.heap.size, _, _, rfl, h.bl.size, NoInt.alloc w _ T (by simp), Box2.alloc w _ _ T⟩,
   fun k _ e => let ⟨p, b, s, q1, _, _, q4⟩ := h.v10 k; by
     have e' : g 10 = Value.pointer (some ⟨w.heap.size, 0, none⟩) := e
     rw [q1] at e'
     cases e'
     exact absurd q4.lt (Nat.lt_irrefl _),
   H.e5, H.e6, H.e7, H.e8, H.e9, H.e12⟩
theorem IntC.store2 {v : Value} {y : Int} {p : Nat} (h : IntC w v y) (hN : NoInt w p) (b : Bool) (a : Option Addr) (n c : Nat) : IntC ((w.setCell ⟨p, 0, none⟩ (.bool b)).setCell ⟨p, 1, none⟩ (.slice a n c)) v y := by
  obtain ⟨a', c', e, h1, h2⟩ := h.ex
  exact ⟨a', c', e, h1, h2.store2 hN b a n c⟩
theorem Box2.far {p q : Nat} {b s : Value} (hb : Box2 w p b s) (hne : q ≠ p) (o : Nat) (v : Value) : Box2 (w.setCell ⟨q, o, none⟩ v) p b s :=
  ⟨(far2 hne).trans hb.c0, (far2 hne).trans hb.c1, fun i => by simp [World.frozen?_setCell, hb.free], by simpa using hb.lt⟩
/-- Behind a store into one of the variables. -/
theorem FlJ.store {p : Nat} {b0 s0 : Value} (h : FlJ W X z D kd d g w) (h5 : d 5 = true) (hp : W.heap.size ≤ p) (hN : NoInt w p) (hB : Box2 w p b0 s0) (b : Bool) (a : Option Addr) (n c : Nat)
    (h12 : d 12 = true → ∀ v u, g 5 = .tuple #[v, u, .int .i64 0] → ∀ q, g 10 = .pointer (some ⟨q, 0, none⟩) → q ≠ p) :
    FlJ W X z D kd d g ((w.setCell ⟨p, 0, none⟩ (.bool b)).setCell ⟨p, 1, none⟩ (.slice a n c)) := by
  have nf : ∀ {q : Prop}, d 5 = false → q := fun k => absurd (h5.symm.trans k) (by decide)
  have hblk : ∀ (q : Nat) (b1 s1 : Value), NoInt w q → Box2 w q b1 s1 → NoInt ((w.setCell ⟨p, 0, none⟩ (.bool b)).setCell ⟨p, 1, none⟩ (.slice a n c)) q ∧ ∃ b2 s2, Box2 ((w.setCell ⟨p, 0, none⟩ (.bool b)).setCell ⟨p, 1, none⟩ (.slice a n c)) q b2 s2 := by
    intro q b1 s1 hn hb
    by_cases hq : p = q
    · subst hq
      exact ⟨(hn.setCell _ _ (by simp)).setCell _ _ (by simp), _, _, hb.store _ _⟩
    · exact ⟨(hn.far hq _ _).far hq _ _, _, _, (hb.far hq _ _).far hq _ _⟩
  refine ⟨(h.bl.setCell (p := ⟨p, 0, none⟩) hp _).setCell (p := ⟨p, 1, none⟩) hp _, h.v0, fun _ k => nf k, h.v2, fun _ k => nf k, fun _ k => nf k, fun k => ?_, fun k => ?_, fun k => ?_, h.ne, h.e5, h.e6, h.e7, h.e8, h.e9, h.e12⟩
  · obtain ⟨v, u, q1, q2, q3, q4, q5, q6, q7, q8⟩ := h.v5 k
    refine ⟨v, u, q1, q2.store2 hN _ _ _ _, q3.store2 hN _ _ _ _, q4, q5, q6, q7, fun k12 => ?_⟩
    obtain ⟨q, b1, s1, r1, r2, r3⟩ := q8 k12
    have hq := h12 k12 v u q1 q r1
    exact ⟨q, b1, s1, r1, r2, (r3.far (Ne.symm hq) _ _).far (Ne.symm hq) _ _⟩
  · obtain ⟨q, b1, s1, q1, q2, q3, q4⟩ := h.v10 k
    obtain ⟨r1, b2, s2, r2⟩ := hblk q b1 s1 q3 q4
    exact ⟨q, b2, s2, q1, q2, r1, r2⟩
  · obtain ⟨q, b1, s1, q1, q2, q3, q4⟩ := h.v11 k
    obtain ⟨r1, b2, s2, r2⟩ := hblk q b1 s1 q3 q4
    exact ⟨q, b2, s2, q1, q2, r1, r2⟩
theorem FlJ.s12 {p : Nat} {b0 s0 : Value} {b : Bool} {a : Option Addr} {n c : Nat} {V : Value} (h : FlJ W X z D kd d g w) (h5 : d 5 = true) (h7 : d 7 = true) (h10 : d 10 = true) (h12 : d 12 = false) (hg : g 10 = .pointer (some ⟨p, 0, none⟩)) (hp : W.heap.size ≤ p) (hN : NoInt w p) (hB : Box2 w p b0 s0) (hv : g 7 = .agg #[.bool b, .slice a n c]) :
    FlJ W X z D kd (mark d 12) (upd g 12 V) ((w.setCell ⟨p, 0, none⟩ (.bool b)).setCell ⟨p, 1, none⟩ (.slice a n c)) := by
  have H := h.store h5 hp hN hB b a n c (fun k => absurd (k.symm.trans h12) (by decide))
  refine ⟨H.bl, H.v0, H.v1, H.v2, H.v3, H.v4, fun k => ?_, H.v10, H.v11, H.ne, H.e5, H.e6, H.e7, H.e8, H.e9, fun _ => ⟨h5, h10⟩⟩
  obtain ⟨v, u, q1, q2, q3, q4, q5, q6, q7, q8⟩ := H.v5 k
  exact ⟨v, u, q1, q2, q3, q4, q5, q6, q7, fun _ => ⟨p, _, _, hg, (q5 h7).symm.trans hv, hB.store _ _⟩⟩
theorem FlJ.s13 {p : Nat} {b0 s0 : Value} {b : Bool} {a : Option Addr} {n c : Nat} {V : Value} (h : FlJ W X z D kd d g w) (h5 : d 5 = true) (h10 : d 10 = true) (h11 : d 11 = true) (hg : g 11 = .pointer (some ⟨p, 0, none⟩)) (hp : W.heap.size ≤ p) (hN : NoInt w p) (hB : Box2 w p b0 s0) :
    FlJ W X z D kd (mark d 13) (upd g 13 V) ((w.setCell ⟨p, 0, none⟩ (.bool b)).setCell ⟨p, 1, none⟩ (.slice a n c)) := by
  have H := h.store h5 hp hN hB b a n c (fun _ v u _ q hq e => h.ne h10 h11 (by rw [hq, hg, e]))
  exact ⟨H.bl, H.v0, H.v1, H.v2, H.v3, H.v4, H.v5, H.v10, H.v11, H.ne, H.e5, H.e6, H.e7, H.e8, H.e9, H.e12⟩
end

/-- A rational boxed, and an integer's place. -/
structure OneI (w W : World) (g : Nat) (p q r : Value) : Prop where
  a : Box3 W g p q r
  c : Box2 W (g + 1) (.bool false) (.slice none 0 0)
  nc : NoInt W (g + 1)
  bl : Below g w W
theorem OneI.mk' (w : World) (p q r : Value) (T T' : Nat) : OneI w ((w.alloc (.cells #[p, q, r] T)).alloc (.cells #[.bool false, .slice none 0 0] T')) w.heap.size p q r := by
  have step : ∀ (W : World) (o : Obj), Below W.heap.size W (W.alloc o) := fun W o => (Below.refl _ _).alloc (Nat.le_refl _) _
  have s1 := step w (.cells #[p, q, r] T)
  have s3 := step (w.alloc (.cells #[p, q, r] T)) (.cells #[.bool false, .slice none 0 0] T')
  have b1 := Box3.alloc w p q r T
  have b3 := Box2.alloc (w.alloc (.cells #[p, q, r] T)) (.bool false) (.slice none 0 0) T'
  have n3 := NoInt.alloc (w.alloc (.cells #[p, q, r] T)) #[.bool false, .slice none 0 0] T' (by simp)
  have b1' := b1.below s3
  have bl := s1.trans (s3.mono (by simp))
  simp only [World.size_alloc] at b3 n3
  exact ⟨b1', b3, n3, bl⟩
theorem FlJ.bx {W w : World} {X : Value} {z : Int} {D kd : Nat} {d : Nat → Bool} {g : Nat → Value} (h : FlJ W X z D kd d g w) {gb : Nat} {p q r : Value} (hb : Box3 W gb p q r) : w.cell? ⟨gb, 0, none⟩ = some p ∧ w.cell? ⟨gb, 1, none⟩ = some q ∧ w.cell? ⟨gb, 2, none⟩ = some r := by
  have := hb.below h.bl
  exact ⟨this.c0, this.c1, this.c2⟩

set_option maxRecDepth 100000 in
set_option maxHeartbeats 3200000 in
theorem r3Floor {w : World} {v : Value} {x : RatL} (hv : RatV w v x) (hx : RatLe x 1048576) :
    Calls Tryz.prog 90 #[v] w (RetZ w ((ratOf x).num / ((ratOf x).den : Int))) := by
  have HV := Lib.hid hv
  have HX := Lib.hid hx
  have hq := QLe.ratOf hv.lim hx
  have hkz : (limbs (ratOf x).num.natAbs).length ≤ 2097152 := Nat.le_trans (limbs_len_le hq.num) (by omega)
  have hkd : (ratL (ratOf x)).den.length + 1 ≤ 2097152 := by have := hq.ratL.den; omega
  have hdp := (ratOf x).den_pos
  obtain ⟨an, ad, cn, cd, rfl, a2, a3, a4, a5⟩ := hv.ex
  have hl1 := a4.len
  have hl2 := a5.len
  clear hv a4 a5 hx hq
  go_enter Tryz.func90, Tryz.ntmps90
  go_upto_region 1 with fail
  have hF := OneI.mk' w (.bool x.neg) (.slice an x.num.length cn) (.slice ad x.den.length cd) 44 71
  generalize (w.alloc (.cells #[.bool x.neg, .slice an x.num.length cn, .slice ad x.den.length cd] 44)).alloc (.cells #[.bool false, .slice none 0 0] 71) = W at *
  have HF := Lib.hid hF
  have HVW := Lib.hid (HV.out.below hF.bl)
  have HD := Lib.hid hdp
  generalize hz : (ratOf x).num = z at *
  generalize hD : (ratOf x).den = D at *
  generalize hKd : (ratL (ratOf x)).den.length + 1 = kd at *
  have HNum : Hid (∀ W', Below W.heap.size W W' → Calls Tryz.prog 110 #[.agg #[.bool x.neg, .slice an x.num.length cn, .slice ad x.den.length cd]] W' (RetZ W' z)) := fun W' hb => by rw [← hz]; exact r3Num (HVW.out.below hb) HX.out
  have HDen : Hid (∀ W', Below W.heap.size W W' → Calls Tryz.prog 111 #[.agg #[.bool x.neg, .slice an x.num.length cn, .slice ad x.den.length cd]] W' (RetU W' D kd)) := fun W' hb => by rw [← hD, ← hKd]; exact r3Den (HVW.out.below hb) HX.out
  clear hF HV HX hz hD hKd hdp
  refine wp_region_slots_gen 14 (by kernel_rfl) (by kernel_rfl) (by kernel_rfl) (by kernel_rfl) (by decide) (FlJ W (.agg #[.bool x.neg, .slice an x.num.length cn, .slice ad x.den.length cd]) z D kd) (fun g => FlJ.start (Below.refl _ _).drew g) ?_ ?_
  · intro ops
    simp only [List.take_succ_cons, List.take_zero, ShowsJ]
    refine ⟨?_, ?_, ?_, ?_, ?_, ?_, ?_, ?_, ?_, ?_, ?_, ?_, ?_, ?_, trivial⟩
    · intro d g wc hJ hd hW
      simp only [Waits, Region.binds, forall_const, Bool.false_eq_true, false_implies, and_true, true_and] at hW
      simp [fillFrom, Act.put]
      have HJ := Lib.hid hJ
      obtain ⟨x0, x1, x2⟩ := hJ.bx HF.out.a
      clear hJ
      go_wp2
      exact ⟨_, rfl, HJ.out.s0⟩
    · intro d g wc hJ hd hW
      simp only [Waits, Region.binds, forall_const, Bool.false_eq_true, false_implies, and_true, true_and] at hW
      simp [fillFrom, Act.put]
      have HJ := Lib.hid hJ
      generalize hg0 : g 0 = y0
      obtain rfl := hg0.symm.trans (hJ.v0 hW)
      have HC := Lib.hid (HNum.out wc hJ.bl)
      clear hJ
      go_wp2_with fail
      refine HC.out.mono ?_
      rintro e w1 ⟨v1, rfl, g1, g2⟩
      have HJ1 := Lib.hid ((HJ.out.grow g2).s1 g1)
      clear g1 g2 HJ HC
      go_wp2
      exact ⟨_, rfl, HJ1.out⟩
    · intro d g wc hJ hd hW
      simp only [Waits, Region.binds, forall_const, Bool.false_eq_true, false_implies, and_true, true_and] at hW
      simp [fillFrom, Act.put]
      have HJ := Lib.hid hJ
      obtain ⟨x0, x1, x2⟩ := hJ.bx HF.out.a
      clear hJ
      go_wp2
      exact ⟨_, rfl, HJ.out.s2⟩
    · intro d g wc hJ hd hW
      simp only [Waits, Region.binds, forall_const, Bool.false_eq_true, false_implies, and_true, true_and] at hW
      simp [fillFrom, Act.put]
      have HJ := Lib.hid hJ
      generalize hg2 : g 2 = y2
      obtain rfl := hg2.symm.trans (hJ.v2 hW.1)
      have HC := Lib.hid (HDen.out wc hJ.bl)
      clear hJ
      go_wp2_with fail
      refine HC.out.mono ?_
      rintro e w1 ⟨a1, c1, l1, rfl, q1, q2, q3, q4, q5⟩
      have HJ1 := Lib.hid ((HJ.out.grow q5).s3 q1 q2 q3 q4)
      clear q2 q3 q5 HJ HC
      go_wp2
      exact ⟨_, rfl, HJ1.out⟩
    · intro d g wc hJ hd hW
      simp only [Waits, Region.binds, forall_const, Bool.false_eq_true, false_implies, and_true, true_and] at hW
      simp [fillFrom, Act.put]
      have HJ := Lib.hid hJ
      have h5 : d 5 = false := by
        cases h : d 5 with
        | false => rfl
        | true => exact absurd ((hJ.e5 h).symm.trans hd) (by decide)
      obtain ⟨a, c, l, e3, q2, q3, q4, q5⟩ := hJ.v3 hW h5
      generalize hg3 : g 3 = y3
      obtain rfl := hg3.symm.trans e3
      have HJ1 := Lib.hid (hJ.s4 q2 q3 q4 q5)
      clear hJ q2 q3 q5 HJ
      go_wp2
      exact ⟨_, rfl, HJ1.out⟩
    · intro d g wc hJ hd hW
      simp only [Waits, Region.binds, forall_const, Bool.false_eq_true, false_implies, and_true, true_and] at hW
      simp [fillFrom, Act.put]
      have HJ := Lib.hid hJ
      obtain ⟨a, c, l, e4, q2, q3, q4, q5⟩ := hJ.v4 hW.2.1 hd
      have c1 := hJ.v1 hW.1 hd
      have HW5 := Lib.hid hW.2.1
      have HD5 := Lib.hid hd
      generalize hg4 : g 4 = y4
      obtain rfl := hg4.symm.trans e4
      generalize hg1 : g 1 = y1 at c1 ⊢
      have hC := r2DivMod c1.v (⟨a, c, l, rfl, q2, q3, q4, q5⟩ : IntV wc (.agg #[.bool false, .slice a l.length c]) false D kd) HD.out hkz hkd
      rw [sgn_of_int] at hC
      have HC := Lib.hid hC
      clear hC hJ q2 q3 q5 c1 hd
      go_wp2_with fail
      refine HC.out.mono ?_
      rintro e w1 ⟨v1, u1, rfl, g1, g2, g3⟩
      have HJ1 := Lib.hid ((HJ.out.grow g3).s5 HD5.out HW5.out g1 g2)
      clear g1 g2 g3 HJ HC
      go_wp2
      exact ⟨_, rfl, HJ1.out⟩
    · intro d g wc hJ hd hW
      simp only [Waits, Region.binds, forall_const, Bool.false_eq_true, false_implies, and_true, true_and] at hW
      simp [fillFrom, Act.put]
      have HJ := Lib.hid hJ
      have HJ1 := Lib.hid (hJ.s6 hW)
      clear hJ
      go_wp2
      exact ⟨_, rfl, HJ1.out⟩
    · intro d g wc hJ hd hW
      simp only [Waits, Region.binds, forall_const, Bool.false_eq_true, false_implies, and_true, true_and] at hW
      simp [fillFrom, Act.put]
      have HJ := Lib.hid hJ
      obtain ⟨v1, u1, _, e6, _, _, r7, _⟩ := hJ.five (hJ.e6 hW)
      have HJ1 : Hid (FlJ W (.agg #[.bool x.neg, .slice an x.num.length cn, .slice ad x.den.length cd]) z D kd (mark d 7) (upd g 7 v1) wc) := by
        rcases r7 v1 rfl with h | h
        · exact h
        · rw [hW] at h; cases h
      generalize hg6 : g 6 = y6
      obtain rfl := hg6.symm.trans (e6 hW)
      clear hJ r7 HJ
      go_wp2
      exact ⟨_, rfl, HJ1.out⟩
    · intro d g wc hJ hd hW
      simp only [Waits, Region.binds, forall_const, Bool.false_eq_true, false_implies, and_true, true_and] at hW
      simp [fillFrom, Act.put]
      have HJ := Lib.hid hJ
      have hW := hW.1
      obtain ⟨v1, u1, _, e6, _, _, _, r8⟩ := hJ.five (hJ.e6 hW)
      have HJ1 : Hid (FlJ W (.agg #[.bool x.neg, .slice an x.num.length cn, .slice ad x.den.length cd]) z D kd (mark d 8) (upd g 8 u1) wc) := by
        rcases r8 u1 rfl with h | h
        · exact h
        · rw [hW] at h; cases h
      generalize hg6 : g 6 = y6
      obtain rfl := hg6.symm.trans (e6 hW)
      clear hJ r8 HJ
      go_wp2
      exact ⟨_, rfl, HJ1.out⟩
    · intro d g wc hJ hd hW
      simp only [Waits, Region.binds, forall_const, Bool.false_eq_true, false_implies, and_true, true_and] at hW
      simp [fillFrom, Act.put]
      have HJ := Lib.hid hJ
      have hW := hW.1
      obtain ⟨v1, u1, _, e6, _⟩ := hJ.five (hJ.e6 hW)
      have HJ1 := Lib.hid (hJ.s9 hW)
      generalize hg6 : g 6 = y6
      obtain rfl := hg6.symm.trans (e6 hW)
      clear hJ HJ
      go_wp2
      exact ⟨_, rfl, HJ1.out⟩
    · intro d g wc hJ hd hW
      simp only [Waits, Region.binds, forall_const, Bool.false_eq_true, false_implies, and_true, true_and] at hW
      simp [fillFrom, Act.put]
      have HJ := Lib.hid hJ
      have HJ1 := Lib.hid (hJ.s10 (T := 71) hd)
      clear hJ HJ
      go_wp2
      exact ⟨_, rfl, HJ1.out⟩
    · intro d g wc hJ hd hW
      simp only [Waits, Region.binds, forall_const, Bool.false_eq_true, false_implies, and_true, true_and] at hW
      simp [fillFrom, Act.put]
      have HJ := Lib.hid hJ
      have HJ1 := Lib.hid (hJ.s11 (T := 71))
      clear hJ HJ
      go_wp2
      exact ⟨_, rfl, HJ1.out⟩
    · intro d g wc hJ hd hW
      simp only [Waits, Region.binds, forall_const, Bool.false_eq_true, false_implies, and_true, true_and] at hW
      simp [fillFrom, Act.put]
      have HJ := Lib.hid hJ
      obtain ⟨p, b0, s0, e10, hp, hN, hB⟩ := hJ.v10 hW.1
      obtain ⟨v1, u1, q1, q2, q3, q4, q5, _⟩ := hJ.v5 hW.2.2.1
      obtain ⟨a, c, rfl, _, _⟩ := q2.ex
      have HJ1 := Lib.hid (fun V => hJ.s12 (V := V) hW.2.2.1 hW.2.1 hW.1 hd e10 hp hN hB (q5 hW.2.1))
      obtain ⟨x0, x1, xf, xlt⟩ := hB
      generalize hg10 : g 10 = y10
      obtain rfl := hg10.symm.trans e10
      generalize hg7 : g 7 = y7
      obtain rfl := hg7.symm.trans (q5 hW.2.1)
      clear hJ HJ q1 q2 q3 q4 q5 hN
      go_wp2
      exact ⟨trivial, undef, HJ1.out _⟩
    · intro d g wc hJ hd hW
      simp only [Waits, Region.binds, forall_const, Bool.false_eq_true, false_implies, and_true, true_and] at hW
      simp [fillFrom, Act.put]
      have HJ := Lib.hid hJ
      have h5 : d 5 = true := hW.2.2.2.2.2.2.2.2.1
      have h10 : d 10 = true := (hJ.e12 hW.2.2.1).2
      obtain ⟨p, b0, s0, e11, hp, hN, hB⟩ := hJ.v11 hW.1
      obtain ⟨v1, u1, q1, q2, q3, q4, q5, q6, _⟩ := hJ.v5 h5
      obtain ⟨a, c, rfl, _, _⟩ := q3.ex
      have HJ1 := Lib.hid (fun V b a n c => hJ.s13 (V := V) (b := b) (a := a) (n := n) (c := c) h5 h10 hW.1 e11 hp hN hB)
      obtain ⟨x0, x1, xf, xlt⟩ := hB
      generalize hg11 : g 11 = y11
      obtain rfl := hg11.symm.trans e11
      generalize hg8 : g 8 = y8
      obtain rfl := hg8.symm.trans (q6 hW.2.1)
      clear hJ HJ q1 q2 q3 q4 q5 hN
      go_wp2
      exact ⟨trivial, undef, HJ1.out _ _ _ _ _⟩
  · intro ops d g wc hall hJ
    simp only [List.take_succ_cons, List.take_zero, List.drop_succ_cons, List.drop_zero]
    simp [fillFrom, Act.put]
    obtain ⟨v1, u1, q1, q2, q3, q4, q5, q6, q7, q8⟩ := hJ.v5 (hall 5 (by decide))
    obtain ⟨p, b, s, r1, r2, r3⟩ := q8 (hall 12 (by decide))
    obtain ⟨a, c, e1, k1, k2⟩ := q2.ex
    rw [r2] at e1
    cases e1
    have hc := HF.out.c.below hJ.bl
    have HN := Lib.hid (HF.out.nc.below hJ.bl HF.out.c.lt)
    have HB := Lib.hid (HF.out.bl.trans (hJ.bl.mono (by have := HF.out.a.lt; omega)))
    have K2 := Lib.hid k2
    obtain ⟨x0, x1, xf, xlt⟩ := r3
    obtain ⟨r0', r1', rf', rlt'⟩ := hc
    generalize hg9 : g 9 = y9
    obtain rfl := hg9.symm.trans (q7 (hall 9 (by decide)))
    generalize hg10 : g 10 = y10
    obtain rfl := hg10.symm.trans r1
    clear hJ hall q1 q2 q3 q4 q5 q6 q7 q8 k2 r2
    generalize z / (D : Int) = Q at *
    go_wp2
    refine bodyPost_ret (v := .agg #[.bool (decide (Q < 0)), .slice a (limbs Q.natAbs).length c]) ?_ rfl ⟨_, rfl, IntC.store HN.out k1 K2.out, below_store2 HB.out (Nat.le_succ _) _ _⟩
    simp [results, Tryz.results90, go_sem, r0', r1']

end Go.Proofs.YthlmgejikbmmaaaGreat

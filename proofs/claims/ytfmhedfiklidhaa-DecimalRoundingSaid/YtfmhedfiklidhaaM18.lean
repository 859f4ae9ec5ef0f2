/-
  Contracts of the functions that the statements reach, in the order in which they are built: DecU, DecX, DecW.
-/
import Derived.Test.YtfmhedfiklidhaaM17
set_option linter.unusedVariables false
set_option linter.unusedSimpArgs false
set_option linter.constructorNameAsVariable false
set_option linter.deprecated false

/-
  The walk of power (layer 4's statements): by contract; what Fixed's text says, in numbers.
-/
namespace Go.Proofs.Ytfmhedfiklidhaa
open Go.RowKit

theorem Box3.farD {w : World} {g h : Nat} {p q r : Value} (hb : Box3 w g p q r) (hne : h ≠ g) (o : Nat) (v : Value) : Box3 (w.setCell ⟨h, o, none⟩ v) g p q r :=
  ⟨(far2 hne).trans hb.c0, (far2 hne).trans hb.c1, (far2 hne).trans hb.c2, fun i => by simp [World.frozen?_setCell, hb.free], by simpa using hb.lt⟩
theorem Nil3.far {w W : World} {h g : Nat} (n : Nil3 w W h) (hne : h < g) (o : Nat) (v : Value) : Nil3 w (W.setCell ⟨g, o, none⟩ v) h :=
  ⟨n.c.farD (by omega) o v, n.nc.far (by omega) o v, n.bl.setCell (p := ⟨g, o, none⟩) (Nat.le_of_lt hne) v⟩
/-- A rational in block g. -/
structure RBx (W : World) (g : Nat) (x : RatL) : Prop where
  ex : ∃ an ad cn cd, Box3 W g (.bool x.neg) (.slice an x.num.length cn) (.slice ad x.den.length cd) ∧ x.num.length ≤ cn ∧ x.den.length ≤ cd ∧ U32s W an x.num ∧ U32s W ad x.den
  nc : NoInt W g
theorem RBx.below {W W' : World} {g : Nat} {x : RatL} (h : RBx W g x) (hb : Below W.heap.size W W') : RBx W' g x := by
  obtain ⟨⟨an, ad, cn, cd, h1, h2, h3, h4, h5⟩, h6⟩ := h
  exact ⟨⟨an, ad, cn, cd, h1.below hb, h2, h3, h4.below hb, h5.below hb⟩, h6.below hb h1.lt⟩
theorem RBx.alloc {W : World} {an ad : Option Addr} {cn cd : Nat} {x : RatL} (h2 : x.num.length ≤ cn) (h3 : x.den.length ≤ cd) (h4 : U32s W an x.num) (h5 : U32s W ad x.den) (T : Nat) :
    RBx (W.alloc (.cells #[.bool x.neg, .slice an x.num.length cn, .slice ad x.den.length cd] T)) W.heap.size x :=
  have hb : Below W.heap.size W (W.alloc (.cells #[.bool x.neg, .slice an x.num.length cn, .slice ad x.den.length cd] T)) := (Below.refl _ W).alloc (Nat.le_refl _) _
  ⟨⟨an, ad, cn, cd, Box3.alloc W _ _ _ T, h2, h3, h4.below hb, h5.below hb⟩, NoInt.alloc W _ T (by simp)⟩
/-- 10 ^ k. -/
def tenR (k : Nat) : RatL := ⟨false, limbs (10 ^ k), []⟩
theorem tenR_is (k : Nat) : tenR k = ratL (((10 ^ k : Nat) : Int) : Rat) := by
  rw [ratL_int]
  unfold tenR
  rw [decide_eq_false (Int.not_lt.2 (Int.natCast_nonneg _)), Int.natAbs_natCast]
theorem ratOf_tenR (k : Nat) : ratOf (tenR k) = (((10 ^ k : Nat) : Int) : Rat) := by rw [tenR_is, ratOf_ratL]
theorem tenR_mul (k : Nat) : ratL (ratOf (tenR k) * ratOf (ratL ((10 : Int) : Rat))) = tenR (k + 1) := by
  rw [ratOf_tenR, ratOf_ratL, tenR_is, ← Rat.intCast_mul]
  congr 2
theorem tenR_le (k : Nat) : RatLe (tenR k) (k + 1) := ⟨limbs_pow10 k, by simp [tenR]⟩
theorem tenR_one : ratL ((1 : Int) : Rat) = tenR 0 := by rw [tenR_is]; rfl

structure PwI (w wr : World) (h g k : Nat) : Prop where
  nil : Nil3 w wr h
  box : RBx wr g (tenR k)
  lt : h < g
theorem RBx.store {W : World} {g : Nat} {x y : RatL} (h : RBx W g x) {bn bd : Option Addr} {dn dd : Nat} (g2 : y.num.length ≤ dn) (g3 : y.den.length ≤ dd) (g4 : U32s W bn y.num) (g5 : U32s W bd y.den) :
    RBx (((W.setCell ⟨g, 0, none⟩ (.bool y.neg)).setCell ⟨g, 1, none⟩ (.slice bn y.num.length dn)).setCell ⟨g, 2, none⟩ (.slice bd y.den.length dd)) g y := by
  obtain ⟨⟨an, ad, cn, cd, h1, _⟩, hN⟩ := h
  exact ⟨⟨bn, bd, dn, dd, h1.store _ _ _, g2, g3, ((g4.setCell hN _ _).setCell (hN.setCell _ _ (by simp)) _ _).setCell ((hN.setCell _ _ (by simp)).setCell _ _ (by simp)) _ _,
    ((g5.setCell hN _ _).setCell (hN.setCell _ _ (by simp)) _ _).setCell ((hN.setCell _ _ (by simp)).setCell _ _ (by simp)) _ _⟩, ((hN.setCell _ _ (by simp)).setCell _ _ (by simp)).setCell _ _ (by simp)⟩
theorem PwI.step {w wr w4 : World} {h g k : Nat} (p : PwI w wr h g k) (hb : Below wr.heap.size wr w4) {bn bd : Option Addr} {dn dd : Nat} (g2 : (tenR (k + 1)).num.length ≤ dn) (g3 : (tenR (k + 1)).den.length ≤ dd) (g4 : U32s w4 bn (tenR (k + 1)).num) (g5 : U32s w4 bd (tenR (k + 1)).den) :
    PwI w (((w4.setCell ⟨g, 0, none⟩ (.bool (tenR (k + 1)).neg)).setCell ⟨g, 1, none⟩ (.slice bn (tenR (k + 1)).num.length dn)).setCell ⟨g, 2, none⟩ (.slice bd (tenR (k + 1)).den.length dd)) h g (k + 1) :=
  ⟨(((p.nil.below hb).far p.lt _ _).far p.lt _ _).far p.lt _ _, (p.box.below hb).store g2 g3 g4 g5, p.lt⟩
set_option maxRecDepth 100000 in
set_option maxHeartbeats 3200000 in
theorem lPower {w : World} (n : Nat) (hn : n ≤ 1000) : Calls Try.prog 21 #[.int .i64 (n : Int)] w (RetR w (tenR n)) := by
  have hF := Nil3.mk' w 25
  have H1 : Hid (∀ wv, Calls Try.prog 22 #[.int .i64 1] wv (RetR wv (tenR 0))) := fun wv => by rw [← tenR_one]; exact r3Of wv 1 (by decide) (by decide)
  have H10 : Hid (∀ wv, Calls Try.prog 22 #[.int .i64 10] wv (RetR wv (ratL ((10 : Int) : Rat)))) := fun wv => r3Of wv 10 (by decide) (by decide)
  have h10 : RatLe (ratL ((10 : Int) : Rat)) 2 := by rw [ratL_int]; exact ⟨limbs_len64 (by decide), by simp⟩
  have HMul : Hid (∀ (wv : World) (v u : Value) (k : Nat), k ≤ 1000 → RatV wv v (tenR k) → RatV wv u (ratL ((10 : Int) : Rat)) → Calls Try.prog 19 #[v, u] wv (RetR wv (tenR (k + 1)))) := fun wv v u k hk hv hu => by
    have h := r3Mul hv hu ((tenR_le k).mono (by omega)) (h10.mono (by omega))
    rw [tenR_mul] at h
    exact h
  go_enter Try.func21, Try.ntmps21
  go_upto_region 1 with fail
  generalize w.alloc (.cells #[.bool false, .slice none 0 0, .slice none 0 0] 25) = W at *
  have HF := Lib.hid hF
  clear hF h10
  go_wp2_with fail
  refine (H1.out _).mono ?_
  rintro e w1 ⟨v, rfl, k1, hb1⟩
  obtain ⟨an, ad, cn, cd, rfl, h2, h3, h4, h5⟩ := k1.ex
  have HB := Lib.hid (RBx.alloc h2 h3 h4 h5 25)
  have hb3 : Below w1.heap.size w1 (w1.alloc (.cells #[.bool (tenR 0).neg, .slice an (tenR 0).num.length cn, .slice ad (tenR 0).den.length cd] 25)) := (Below.refl _ w1).alloc (Nat.le_refl _) _
  have HF2 := Lib.hid ((HF.out.below hb1).below hb3)
  have hgh : w.heap.size < w1.heap.size := (HF.out.below hb1).c.lt
  obtain ⟨g, hg⟩ : ∃ g, g = w1.heap.size := ⟨_, rfl⟩
  clear h2 h3 h4 h5 k1 hb1 hb3 HF H1
  go_upto_region 2 with fail
  rw [← hg] at HB hgh ⊢
  generalize w1.alloc (.cells #[.bool (tenR 0).neg, .slice an (tenR 0).num.length cn, .slice ad (tenR 0).den.length cd] 25) = W2 at *
  have HI : Hid (PwI w W2 w.heap.size g 0) := ⟨HF2.out, HB.out, hgh⟩
  clear hg HB HF2 hgh
  go_wp2
  go_loopw [4] (fun i wr => ∃ k : Nat, k ≤ n ∧ i = .int .i64 (k : Int) ∧ Hid (PwI w wr w.heap.size g k)) (fun i _ => n - (intOf i).toNat)
  case atStart => exact ⟨0, Nat.zero_le _, rfl, HI.out⟩
  case round =>
    obtain ⟨k, hk, rfl, HP⟩ := hrel
    by_cases hlt : k < n
    · obtain ⟨an, ad, cn, cd, hbx, h2, h3, h4, h5⟩ := HP.out.box.ex
      have HV : Hid (∀ wx, Below wr.heap.size wr wx → RatV wx (.agg #[.bool (tenR k).neg, .slice an (tenR k).num.length cn, .slice ad (tenR k).den.length cd]) (tenR k)) := fun wx hb => ⟨an, ad, cn, cd, rfl, h2, h3, h4.below hb, h5.below hb⟩
      obtain ⟨x0, x1, x2, xf, xlt⟩ := hbx
      have hgh := HP.out.lt
      clear h2 h3 h4 h5 xf
      go_wp2
      have xbl : Below wr.heap.size wr wr.drew := (Below.refl _ _).drew
      go_region_with (first
        | (go_at_call 22; refine (H10.out _).mono ?_; rintro e w3 ⟨v3, rfl, k3, hb3⟩; have hB3 : Below wr.heap.size wr w3 := xbl.trans hb3; have K3 := Lib.hid k3; have HB3 := Lib.hid hB3; have y0 := (hB3.cell (p := ⟨g, 0, none⟩) xlt).trans x0; have y1 := (hB3.cell (p := ⟨g, 1, none⟩) xlt).trans x1; have y2 := (hB3.cell (p := ⟨g, 2, none⟩) xlt).trans x2; clear k3 hb3 hB3)
        | (go_at_call 19; refine (HMul.out _ _ _ k (by omega) (HV.out _ HB3.out) K3.out).mono ?_; rintro e w4 ⟨v4, rfl, k4, hb4⟩; obtain ⟨bn, bd, dn, dd, rfl, g2, g3, g4, g5⟩ := k4.ex; have hB4 := HB3.out.trans (hb4.mono HB3.out.size); have HB4 := Lib.hid hB4; have G4 := Lib.hid g4; have G5 := Lib.hid g5; have HR4 := Lib.hid (HP.out.box.below hB4); obtain ⟨an', ad', cn', cd', ⟨z0, z1, z2, zf, zlt⟩, _⟩ := HR4.out.ex; clear k4 hb4 hB4 g4 g5))
      all_goals
        have HStep := Lib.hid (HP.out.step HB4.out g2 g3 G4.out G5.out)
        go_wp2
        go_roundw
        case rel => exact ⟨k + 1, hlt, by go_num, HStep.out⟩
        case measure => simp [intOf]; omega
    · obtain rfl : n = k := by omega
      obtain ⟨an, ad, cn, cd, hbx, h2, h3, h4, h5⟩ := HP.out.box.ex
      have hgh := HP.out.lt
      have HS : Hid (Box3 (((wr.setCell ⟨w.heap.size, 0, none⟩ (.bool (tenR n).neg)).setCell ⟨w.heap.size, 1, none⟩ (.slice an (tenR n).num.length cn)).setCell ⟨w.heap.size, 2, none⟩ (.slice ad (tenR n).den.length cd)) w.heap.size (.bool (tenR n).neg) (.slice an (tenR n).num.length cn) (.slice ad (tenR n).den.length cd)) := HP.out.nil.c.store _ _ _
      have HV : Hid (RatV (((wr.setCell ⟨w.heap.size, 0, none⟩ (.bool (tenR n).neg)).setCell ⟨w.heap.size, 1, none⟩ (.slice an (tenR n).num.length cn)).setCell ⟨w.heap.size, 2, none⟩ (.slice ad (tenR n).den.length cd)) (.agg #[.bool (tenR n).neg, .slice an (tenR n).num.length cn, .slice ad (tenR n).den.length cd]) (tenR n)) := RatV.store HP.out.nil.nc h2 h3 h4 h5
      have HBl := Lib.hid (below_store3 HP.out.nil.bl (Nat.le_refl _) (.bool (tenR n).neg) (.slice an (tenR n).num.length cn) (.slice ad (tenR n).den.length cd))
      obtain ⟨x0, x1, x2, xf, xlt⟩ := hbx
      obtain ⟨y0, y1, y2, yf, ylt⟩ := HP.out.nil.c
      clear h2 h3 h4 h5 xf
      go_wp2
      obtain ⟨z0, z1, z2, zf, zlt⟩ := HS.out
      have hNP : RetR w (tenR n) (.returned (.agg #[.bool (tenR n).neg, .slice an (tenR n).num.length cn, .slice ad (tenR n).den.length cd])) (((wr.setCell ⟨w.heap.size, 0, none⟩ (.bool (tenR n).neg)).setCell ⟨w.heap.size, 1, none⟩ (.slice an (tenR n).num.length cn)).setCell ⟨w.heap.size, 2, none⟩ (.slice ad (tenR n).den.length cd)) := ⟨_, rfl, HV.out, HBl.out⟩
      generalize ((wr.setCell ⟨w.heap.size, 0, none⟩ (.bool (tenR n).neg)).setCell ⟨w.heap.size, 1, none⟩ (.slice an (tenR n).num.length cn)).setCell ⟨w.heap.size, 2, none⟩ (.slice ad (tenR n).den.length cd) = Y at *
      exact bodyPost_ret (v := .agg #[.bool (tenR n).neg, .slice an (tenR n).num.length cn, .slice ad (tenR n).den.length cd]) (by simp [results, Try.results21, go_sem, z0, z1, z2]) rfl hNP

end Go.Proofs.Ytfmhedfiklidhaa

/-
  What Fixed's text says, in numbers. No program in sight.
-/
namespace Go.Proofs.Ytfmhedfiklidhaa
open Go.RowKit

theorem sgn_bound (neg : Bool) {A B D : Nat} (h1 : B ≤ A + D) (h2 : A ≤ B + D) : sgn neg A - sgn neg B ≤ (D : Int) ∧ -(D : Int) ≤ sgn neg A - sgn neg B := by
  cases neg <;> simp only [sgn, Bool.false_eq_true, if_true, if_false] <;> omega
theorem sgn_mulR (neg : Bool) (A B : Nat) : sgn neg (A * B) = sgn neg A * (B : Int) := by
  cases neg <;> simp [sgn, Int.neg_mul]
theorem rat_le_one {d : Rat} {D : Nat} {Z : Int} (hD : 0 < D) (h : d * ((D : Int) : Rat) = (Z : Rat)) (h1 : Z ≤ (D : Int)) (h2 : -(D : Int) ≤ Z) : d ≤ 1 ∧ -1 ≤ d := by
  have hp : (0 : Rat) < ((D : Int) : Rat) := by rw [← Rat.intCast_zero, Rat.intCast_lt_intCast]; omega
  refine ⟨Rat.not_lt.1 fun hlt => ?_, Rat.not_lt.1 fun hlt => ?_⟩
  · have h3 := Rat.mul_lt_mul_of_pos_right hlt hp
    rw [h, Rat.one_mul, Rat.intCast_lt_intCast] at h3
    omega
  · have h3 := Rat.mul_lt_mul_of_pos_right hlt hp
    rw [h, Rat.neg_mul, Rat.one_mul, ← Rat.intCast_neg, Rat.intCast_lt_intCast] at h3
    omega
theorem mkRat_mul (z : Int) {D : Nat} (hD : 0 < D) : mkRat z D * ((D : Int) : Rat) = (z : Rat) := by
  have hp : ((D : Int) : Rat) ≠ 0 := by
    intro h
    rw [← Rat.intCast_zero, Rat.intCast_inj] at h
    omega
  rw [Rat.mkRat_eq_div]
  exact Rat.div_mul_cancel hp
theorem fixed_close (neg : Bool) (N p : Nat) {D : Nat} (hD : 0 < D) : (mkRat (sgn neg N) D - mkRat (sgn neg (roundQ N D p)) (10 ^ p)) * ((((10 ^ p : Nat) : Int) : Rat) * ((2 : Int) : Rat)) ≤ 1 ∧
    -1 ≤ (mkRat (sgn neg N) D - mkRat (sgn neg (roundQ N D p)) (10 ^ p)) * ((((10 ^ p : Nat) : Int) : Rat) * ((2 : Int) : Rat)) := by
  obtain ⟨b1, b2⟩ := round_bound N D p hD
  have hT : 0 < 10 ^ p := Nat.pow_pos (by decide)
  generalize roundQ N D p = Q at *
  generalize 10 ^ p = T at *
  have ha := mkRat_mul (sgn neg N) hD
  have hb := mkRat_mul (sgn neg Q) hT
  generalize mkRat (sgn neg N) D = a at *
  generalize mkRat (sgn neg Q) T = b at *
  have hz := sgn_bound neg (A := N * T * 2) (B := Q * (D * 2)) (D := D) (by omega) (by omega)
  have e1 : sgn neg (N * T * 2) = sgn neg N * (T : Int) * 2 := by rw [sgn_mulR, sgn_mulR]; rfl
  have e2 : sgn neg (Q * (D * 2)) = sgn neg Q * ((D : Int) * 2) := by rw [sgn_mulR]; rfl
  refine rat_le_one (Z := sgn neg (N * T * 2) - sgn neg (Q * (D * 2))) hD ?_ hz.1 hz.2
  rw [e1, e2]
  simp only [Rat.intCast_sub, Rat.intCast_mul]
  rw [← ha, ← hb]
  have : ((2 : Int) : Rat) = 2 := rfl
  rw [this]
  generalize ((T : Int) : Rat) = t
  generalize ((D : Int) : Rat) = d
  grind
theorem cmpQ_le {p q : Rat} (h : p ≤ q) : decide (cmpQ p q ≤ 0) = true := by
  unfold cmpQ
  by_cases h1 : p < q
  · rw [if_pos h1]; decide
  · rw [if_neg h1, if_neg (Rat.not_lt.2 h)]; decide
theorem cmpQ_ge {p q : Rat} (h : q ≤ p) : decide (0 ≤ cmpQ p q) = true := by
  unfold cmpQ
  rw [if_neg (Rat.not_lt.2 h)]
  by_cases h1 : q < p
  · rw [if_pos h1]; decide
  · rw [if_neg h1]; decide
/-- A text that is exact. -/
theorem fixed_exact {x : RatL} (hcan : canonL x = x) {P : Nat} {z : Int} (h : ratOf x * (((10 ^ P : Nat) : Int) : Rat) = (z : Rat)) (hl : (digN (roundQ (lval x.num) (underN x.den) P)).length + P + 1 ≤ 4000) :
    parseL (fixedL x.neg (lval x.num) (underN x.den) P) = (x, 0, 0) := by
  have hD := underN_pos x.den
  have hT : 0 < 10 ^ P := Nat.pow_pos (by decide)
  have ha := mkRat_mul (sgn x.neg (lval x.num)) hD
  have hx : mkRat (sgn x.neg (lval x.num)) (underN x.den) = ratOf x := rfl
  have hq : ratL (ratOf x) = x := by rw [← canonL_ratL]; exact hcan
  have hZ : sgn x.neg (lval x.num) * ((10 ^ P : Nat) : Int) = z * (underN x.den : Int) := by
    rw [← Rat.intCast_inj, Rat.intCast_mul, Rat.intCast_mul, ← ha, ← h, hx]
    grind
  have hN : lval x.num * 10 ^ P = z.natAbs * underN x.den := by
    have := congrArg Int.natAbs hZ
    rw [Int.natAbs_mul, Int.natAbs_mul, sgn_natAbs, Int.natAbs_natCast, Int.natAbs_natCast] at this
    exact this
  rw [fixed_parse x.neg _ _ _ hl]
  have hr := round_exact (lval x.num) (underN x.den) P z.natAbs hD hN
  rw [hr]
  have hm : mkRat (sgn x.neg z.natAbs) (10 ^ P) = ratOf x := by
    rw [← hx]
    refine (Rat.mkRat_eq_iff (by omega) (by omega)).2 ?_
    rw [← sgn_mulR, ← hN, sgn_mulR]
  rw [hm, hq]

end Go.Proofs.Ytfmhedfiklidhaa

/-
  The walk of DecimalRounding: by contract.
-/
namespace Go.Proofs.Ytfmhedfiklidhaa
open Go.RowKit

theorem round_len {x : RatL} (hx : x.Lim) (h1 : x.num.length ≤ 8) (p : Nat) (hp : p ≤ 40) : (digN (roundQ (lval x.num) (underN x.den) p)).length ≤ 600 := by
  have hD := underN_pos x.den
  have hle : roundQ (lval x.num) (underN x.den) p ≤ lval x.num * 10 ^ p + 1 := by
    unfold roundQ
    refine Nat.le_trans (Nat.div_le_div_right (show lval x.num * 10 ^ p * 2 + underN x.den ≤ (lval x.num * 10 ^ p + 1) * (underN x.den * 2) from ?_)) (by rw [Nat.mul_div_cancel _ (by omega)]; exact Nat.le_refl _)
    have h1 : lval x.num * 10 ^ p ≤ lval x.num * 10 ^ p * underN x.den := Nat.le_mul_of_pos_right _ hD
    rw [Nat.add_mul, Nat.one_mul, ← Nat.mul_assoc]
    omega
  have hN : (limbs (lval x.num)).length ≤ 8 := Nat.le_trans (limbs_len_of_lval hx.1) h1
  have hTl := limbs_pow10 p
  have h2 : (limbs (lval x.num * 10 ^ p)).length ≤ 49 := Nat.le_trans (limbs_mul_le _ _) (by omega)
  have h3 : (limbs (lval x.num * 10 ^ p + 1)).length ≤ 50 := limbs_add_le _ _ 49 h2 (by rw [limbs_one]; simp)
  have h4 := Nat.le_trans (limbs_len_mono hle) h3
  have h5 : nd (roundQ (lval x.num) (underN x.den) p) ≤ 500 := Nat.le_trans (nd_limbs (limbs_len_lt _)) (by omega)
  rw [digN_len]
  split <;> omega
theorem fixedL_len {neg : Bool} {n d p : Nat} : (fixedL neg n d p).length ≤ (digN (roundQ n d p)).length + p + 3 := by
  unfold fixedL
  rw [List.length_append]
  have h1 : (if (neg && decide (roundQ n d p ≠ 0)) then [(45 : UInt8)] else []).length ≤ 1 := by split <;> simp
  have h2 : (dotL p (padZ (p + 1) (digN (roundQ n d p)))).length ≤ (padZ (p + 1) (digN (roundQ n d p))).length + 1 := by
    unfold dotL
    split
    · omega
    · rw [List.length_append, List.length_cons, List.length_take, List.length_drop]; omega
  rw [padZ_len] at h2
  omega
theorem qle_num {x : RatL} (hx : x.Lim) {k : Nat} (h : RatLe x k) : QLe (ratOf x) (k + 1) := QLe.ratOf hx h

set_option maxRecDepth 100000 in
set_option maxHeartbeats 6400000 in
theorem lawRounding {w : World} {v : Value} {x : RatL} (hv : RatV w v x) (p : Int) (bp : -9223372036854775808 ≤ p ∧ p ≤ 9223372036854775807) :
    Calls Try.prog 8 #[v, .int .i64 p] w fun e w' => e = .returned (.bool true) ∧ Below w.heap.size w w' := by
  obtain ⟨bp1, bp2⟩ := bp
  have HLim := Lib.hid hv.lim
  have HA := Lib.hid (fun wv => lAwake wv)
  obtain ⟨an, ad, cn, cd, rfl, h2, h3, h4, h5⟩ := hv.ex
  have hb0 : Below w.heap.size w (w.alloc (.cells #[.bool x.neg, .slice an x.num.length cn, .slice ad x.den.length cd] 25)) := (Below.refl _ w).alloc (Nat.le_refl _) _
  have HBx := Lib.hid (Box3.alloc w (.bool x.neg) (.slice an x.num.length cn) (.slice ad x.den.length cd) 25)
  have HV := Lib.hid (hv.below hb0)
  have HB := Lib.hid hb0
  clear hv h4 h5 hb0
  go_enter Try.func8, Try.ntmps8
  go_upto_region 1 with fail
  generalize w.alloc (.cells #[.bool x.neg, .slice an x.num.length cn, .slice ad x.den.length cd] 25) = W at *
  go_wp2_with fail
  refine (HA.out _).mono ?_
  rintro e w1 ⟨rfl, hb1⟩
  have HB1 := Lib.hid (HB.out.trans (hb1.mono HB.out.size))
  have HV1 := Lib.hid (HV.out.below hb1)
  have HBx1 := Lib.hid (HBx.out.below hb1)
  clear hb1 HB HV HBx
  obtain ⟨x0, x1, x2, _, xlt⟩ := HBx1.out
  go_wp2_with fail
  refine (lFair HV1.out).mono ?_
  rintro e w2 ⟨rfl, hb2⟩
  have HB2 := Lib.hid (HB1.out.trans (hb2.mono HB1.out.size))
  have HV2 := Lib.hid (HV1.out.below hb2)
  have HBx2 := Lib.hid (HBx1.out.below hb2)
  clear hb2 HB1 HV1 HBx1 x0 x1 x2 xlt
  cases hf : fairR x with
  | false =>
    go_wp2_with fail
    refine (HA.out _).mono ?_
    rintro e w3 ⟨rfl, hb3⟩
    have HB3 := Lib.hid (HB2.out.trans (hb3.mono HB2.out.size))
    clear hb3
    go_wp2
    go_ret
    exact ⟨rfl, HB3.out⟩
  | true =>
    obtain ⟨f1, f2, f3⟩ := fair_parts hf
    clear hf
    by_cases c1 : p < 0
    · have q1 : decide (p < 0) = true := decide_eq_true c1
      go_wp2_with fail
      refine (HA.out _).mono ?_
      rintro e w3 ⟨rfl, hb3⟩
      have HB3 := Lib.hid (HB2.out.trans (hb3.mono HB2.out.size))
      clear hb3
      go_wp2
      go_ret
      exact ⟨rfl, HB3.out⟩
    by_cases c2 : 40 < p
    · have q1 : decide (p < 0) = false := decide_eq_false c1
      have q2 : decide (40 < p) = true := decide_eq_true c2
      go_wp2_with fail
      refine (HA.out _).mono ?_
      rintro e w3 ⟨rfl, hb3⟩
      have HB3 := Lib.hid (HB2.out.trans (hb3.mono HB2.out.size))
      clear hb3
      go_wp2
      go_ret
      exact ⟨rfl, HB3.out⟩
    obtain ⟨n, hn⟩ : ∃ n : Nat, p = (n : Int) := ⟨p.toNat, by omega⟩
    subst hn
    have hn : n ≤ 40 := by omega
    have q1 : decide ((n : Int) < 0) = false := decide_eq_false (by omega)
    have q2 : decide (40 < (n : Int)) = false := decide_eq_false (by omega)
    clear c1 c2
    have hQl := round_len HLim.out f1 n hn
    have hTl : (fixedL x.neg (lval x.num) (underN x.den) n).length ≤ 100000 := Nat.le_trans fixedL_len (by omega)
    have HC1 := Lib.hid (fun (wv : World) (h : RatV wv (.agg #[.bool x.neg, .slice an x.num.length cn, .slice ad x.den.length cd]) x) => dFixed h f3 (by omega) (by omega) n (by omega))
    have HP : Hid (∀ (wv : World), Calls Try.prog 14 #[.string (Str (fixedL x.neg (lval x.num) (underN x.den) n))] wv (RetP wv (ratL (mkRat (sgn x.neg (roundQ (lval x.num) (underN x.den) n)) (10 ^ n)), 0, 0))) := fun wv => by
      have h := dParse (w := wv) hTl
      rw [fixed_parse _ _ _ _ (by omega)] at h
      exact h
    have HCl := Lib.hid (fixed_close x.neg (lval x.num) n (underN_pos x.den))
    have hqx : QLe (ratOf x) 9 := QLe.ratOf HLim.out ⟨f1, f2⟩
    obtain ⟨K, hK⟩ : ∃ K : Nat, K = 600 := ⟨_, rfl⟩
    have hqy : QLe (mkRat (sgn x.neg (roundQ (lval x.num) (underN x.den) n)) (10 ^ n)) K := by
      refine QLe.mk' ?_ ?_ (Nat.pow_pos (by decide))
      · rw [sgn_natAbs]
        refine Nat.lt_of_lt_of_le (limbs_len_lt _) (Nat.pow_le_pow_right (by decide) ?_)
        have := limbs_len_dec (n := K) (V := roundQ (lval x.num) (underN x.den) n) (by
          have h1 := (nd_bound (roundQ (lval x.num) (underN x.den) n)).1
          refine Nat.lt_of_lt_of_le h1 (Nat.pow_le_pow_right (by decide) ?_)
          rw [digN_len] at hQl
          split at hQl
          · rename_i h0; rw [h0, nd_zero]; omega
          · omega)
        exact this
      · exact Nat.lt_of_lt_of_le (limbs_len_lt _) (Nat.pow_le_pow_right (by decide) (Nat.le_trans (limbs_pow10 n) (by omega)))
    have hyle := hqy.ratL
    generalize hy : ratL (mkRat (sgn x.neg (roundQ (lval x.num) (underN x.den) n)) (10 ^ n)) = y at *
    have hyq : ratOf y = mkRat (sgn x.neg (roundQ (lval x.num) (underN x.den) n)) (10 ^ n) := by rw [← hy, ratOf_ratL]
    have hsub := hqx.sub hqy
    rw [← hyq] at hsub hqy
    have hsle := hsub.ratL
    have h10 : RatLe (ratL ((2 : Int) : Rat)) 2 := by rw [ratL_int]; exact ⟨limbs_len64 (by decide), by simp⟩
    have HSub : Hid (∀ (wv : World) (v u : Value), RatV wv v x → RatV wv u y → Calls Try.prog 20 #[v, u] wv (RetR wv (ratL (ratOf x - ratOf y)))) := fun wv v u hv hu => r3Sub hv hu ⟨by omega, by omega⟩ (hyle.mono (by omega))
    have HPw := Lib.hid (fun (wv : World) => lPower (w := wv) n (by omega))
    have H2 : Hid (∀ wv, Calls Try.prog 22 #[.int .i64 2] wv (RetR wv (ratL ((2 : Int) : Rat)))) := fun wv => r3Of wv 2 (by decide) (by decide)
    have hm2 : QLe (ratOf (tenR n) * ratOf (ratL ((2 : Int) : Rat))) 50 := by
      have a1 : QLe (ratOf (tenR n)) 42 := by
        rw [ratOf_tenR]
        refine ⟨?_, by rw [Rat.den_intCast]; exact Nat.one_lt_pow (by omega) (by omega)⟩
        rw [Rat.num_intCast, Int.natAbs_natCast]
        exact Nat.lt_of_lt_of_le (limbs_len_lt _) (Nat.pow_le_pow_right (by decide) (Nat.le_trans (limbs_pow10 n) (by omega)))
      have a2 : QLe (ratOf (ratL ((2 : Int) : Rat))) 1 := by
        rw [ratOf_ratL]
        exact ⟨by rw [Rat.num_intCast]; decide, by rw [Rat.den_intCast]; decide⟩
      exact (a1.mul a2).mono (by omega)
    have HM1 : Hid (∀ (wv : World) (v u : Value), RatV wv v (tenR n) → RatV wv u (ratL ((2 : Int) : Rat)) → Calls Try.prog 19 #[v, u] wv (RetR wv (ratL (ratOf (tenR n) * ratOf (ratL ((2 : Int) : Rat)))))) := fun wv v u hv hu => r3Mul hv hu ((tenR_le n).mono (by omega)) (h10.mono (by omega))
    have hm2l := hm2.ratL
    obtain ⟨d, hd⟩ : ∃ d, d = ratL (ratOf (ratL (ratOf x - ratOf y)) * ratOf (ratL (ratOf (tenR n) * ratOf (ratL ((2 : Int) : Rat))))) := ⟨_, rfl⟩
    have HM2 : Hid (∀ (wv : World) (v u : Value), RatV wv v (ratL (ratOf x - ratOf y)) → RatV wv u (ratL (ratOf (tenR n) * ratOf (ratL ((2 : Int) : Rat)))) → Calls Try.prog 19 #[v, u] wv (RetR wv d)) := fun wv v u hv hu => by
      rw [hd]; exact r3Mul hv hu (hsle.mono (by omega)) (hm2l.mono (by omega))
    have hdl : RatLe d 524286 := by
      rw [hd, ratOf_ratL, ratOf_ratL]
      exact ((hsub.mul hm2).mono (by omega)).ratL
    have hdq : ratOf d ≤ 1 ∧ -1 ≤ ratOf d := by
      rw [hd, ratOf_ratL, ratOf_ratL, ratOf_ratL, ratOf_ratL, ratOf_tenR, hyq]
      exact HCl.out
    have h1l : RatLe (ratL ((1 : Int) : Rat)) 524285 := by rw [ratL_int]; exact ⟨Nat.le_trans (limbs_len64 (by decide)) (by decide), by simp⟩
    have hm1l : RatLe (ratL ((-1 : Int) : Rat)) 524285 := by rw [ratL_int]; exact ⟨Nat.le_trans (limbs_len64 (by decide)) (by decide), by simp⟩
    have O1 : Hid (∀ wv, Calls Try.prog 22 #[.int .i64 1] wv (RetR wv (ratL ((1 : Int) : Rat)))) := fun wv => r3Of wv 1 (by decide) (by decide)
    have Om : Hid (∀ wv, Calls Try.prog 22 #[.int .i64 (-1)] wv (RetR wv (ratL ((-1 : Int) : Rat)))) := fun wv => r3Of wv (-1) (by decide) (by decide)
    have HCm1 : Hid (∃ c : Int, decide (c ≤ 0) = true ∧ ∀ (wv : World) (v u : Value), RatV wv v d → RatV wv u (ratL ((1 : Int) : Rat)) → Calls Try.prog 23 #[v, u] wv fun e w' => e = .returned (.int .i64 c) ∧ Below wv.heap.size wv w') :=
      ⟨cmpQ (ratOf d) 1, cmpQ_le hdq.1, fun wv v u hv hu => by have h := r3Cmp hv hu hdl h1l; rw [ratOf_ratL] at h; exact h⟩
    have HCm2 : Hid (∃ c : Int, decide (0 ≤ c) = true ∧ ∀ (wv : World) (v u : Value), RatV wv v d → RatV wv u (ratL ((-1 : Int) : Rat)) → Calls Try.prog 23 #[v, u] wv fun e w' => e = .returned (.int .i64 c) ∧ Below wv.heap.size wv w') :=
      ⟨cmpQ (ratOf d) (-1), cmpQ_ge hdq.2, fun wv v u hv hu => by have h := r3Cmp hv hu hdl hm1l; rw [ratOf_ratL] at h; exact h⟩
    clear hK hdq hdl h1l hm1l hm2l hm2 h10 hsle hsub hqx hqy hyq hy hd hyle hQl hTl f3
    obtain ⟨k1, hk1, C1⟩ := HCm1.out
    obtain ⟨k2, hk2, C2⟩ := HCm2.out
    have HD1 := Lib.hid C1
    have HD2 := Lib.hid C2
    clear HCm1 HCm2 C1 C2 HCl
    generalize ratL (ratOf x - ratOf y) = s at *
    generalize ratL (ratOf (tenR n) * ratOf (ratL ((2 : Int) : Rat))) = t at *
    generalize ratL ((2 : Int) : Rat) = two at *
    generalize ratL ((1 : Int) : Rat) = one at *
    generalize ratL ((-1 : Int) : Rat) = mone at *
    generalize fixedL x.neg (lval x.num) (underN x.den) n = TX at *
    generalize tenR n = ten at *
    obtain ⟨x0, x1, x2, _, xlt⟩ := HBx2.out
    go_wp2_with fail
    refine (HC1.out _ HV2.out).mono ?_
    rintro e w3 ⟨rfl, hb3⟩
    have HB3 := Lib.hid (HB2.out.trans (hb3.mono HB2.out.size))
    have HV3 := Lib.hid (HV2.out.below hb3)
    have HBx3 := Lib.hid (HBx2.out.below hb3)
    clear hb3 x0 x1 x2 xlt HB2 HV2 HBx2
    go_wp2_with fail
    refine (HP.out _).mono ?_
    rintro e w4 ⟨v, rfl, k4, hb4⟩
    obtain ⟨bn, bd, dn, dd, rfl, g2, g3, g4, g5⟩ := k4.ex
    have hb5 : Below w4.heap.size w4 (w4.alloc (.cells #[.bool y.neg, .slice bn y.num.length dn, .slice bd y.den.length dd] 25)) := (Below.refl _ w4).alloc (Nat.le_refl _) _
    have HBy := Lib.hid (Box3.alloc w4 (.bool y.neg) (.slice bn y.num.length dn) (.slice bd y.den.length dd) 25)
    have hbb := hb4.trans (hb5.mono hb4.size)
    have HU := Lib.hid (k4.below hb5)
    have HV4 := Lib.hid (HV3.out.below hbb)
    have HBx4 := Lib.hid (HBx3.out.below hbb)
    have HB4 := Lib.hid (HB3.out.trans (hbb.mono HB3.out.size))
    obtain ⟨g, hg⟩ : ∃ g, g = w4.heap.size := ⟨_, rfl⟩
    clear hb4 k4 g4 g5 hb5 hbb HB3 HV3 HBx3
    go_upto_region 5 with fail
    rw [← hg] at HBy ⊢
    generalize w4.alloc (.cells #[.bool y.neg, .slice bn y.num.length dn, .slice bd y.den.length dd] 25) = W4 at *
    clear hg
    obtain ⟨x0, x1, x2, _, xlt⟩ := HBx4.out
    obtain ⟨y0, y1, y2, _, ylt⟩ := HBy.out
    go_wp2_with fail
    refine (HSub.out _ _ _ HV4.out HU.out).mono ?_
    rintro e w5 ⟨v5, rfl, k5, hb5⟩
    have HB5 := Lib.hid (HB4.out.trans (hb5.mono HB4.out.size))
    have HS5 := Lib.hid k5
    clear k5 hb5 x0 x1 x2 xlt y0 y1 y2 ylt HB4 HV4 HBx4 HBy HU
    go_wp2_with fail
    refine (HPw.out _).mono ?_
    rintro e w6 ⟨v6, rfl, k6, hb6⟩
    have HB6 := Lib.hid (HB5.out.trans (hb6.mono HB5.out.size))
    have HS6 := Lib.hid (HS5.out.below hb6)
    have HT6 := Lib.hid k6
    clear k6 hb6 HB5 HS5
    go_wp2_with fail
    refine (H2.out _).mono ?_
    rintro e w7 ⟨v7, rfl, k7, hb7⟩
    have HB7 := Lib.hid (HB6.out.trans (hb7.mono HB6.out.size))
    have HS7 := Lib.hid (HS6.out.below hb7)
    have HMa := Lib.hid (HM1.out _ _ _ (HT6.out.below hb7) k7)
    clear k7 hb7 HB6 HS6 HT6
    go_wp2_with fail
    refine HMa.out.mono ?_
    rintro e w8 ⟨v8, rfl, k8, hb8⟩
    have HB8 := Lib.hid (HB7.out.trans (hb8.mono HB7.out.size))
    have HMb := Lib.hid (HM2.out _ _ _ (HS7.out.below hb8) k8)
    clear k8 hb8 HB7 HS7 HMa
    go_wp2_with fail
    refine HMb.out.mono ?_
    rintro e w9 ⟨v, rfl, k9, hb9⟩
    obtain ⟨en, ed, hn', hd', rfl, i2, i3, i4, i5⟩ := k9.ex
    have hb10 : Below w9.heap.size w9 (w9.alloc (.cells #[.bool d.neg, .slice en d.num.length hn', .slice ed d.den.length hd'] 25)) := (Below.refl _ w9).alloc (Nat.le_refl _) _
    have HBd := Lib.hid (Box3.alloc w9 (.bool d.neg) (.slice en d.num.length hn') (.slice ed d.den.length hd') 25)
    have HVd := Lib.hid (k9.below hb10)
    have HB10 := Lib.hid (HB8.out.trans ((hb9.trans (hb10.mono hb9.size)).mono HB8.out.size))
    obtain ⟨g', hg⟩ : ∃ g, g = w9.heap.size := ⟨_, rfl⟩
    clear hb9 k9 i4 i5 hb10 HB8 HMb
    go_upto_region 6 with fail
    rw [← hg] at HBd ⊢
    generalize w9.alloc (.cells #[.bool d.neg, .slice en d.num.length hn', .slice ed d.den.length hd'] 25) = W9 at *
    clear hg
    obtain ⟨x0, x1, x2, _, xlt⟩ := HBd.out
    have xbl : Below W9.heap.size W9 W9.drew := (Below.refl _ _).drew
    go_region_held3 (fun w' => w'.cell? ⟨g', 0, none⟩ = some (.bool d.neg) ∧ w'.cell? ⟨g', 1, none⟩ = some (.slice en d.num.length hn') ∧ w'.cell? ⟨g', 2, none⟩ = some (.slice ed d.den.length hd'))
      (first | exact S3_keep x0 x1 x2 xlt ‹Below W9.heap.size W9 _› | go_keep)
      (first
        | (go_at_call 22; have hS := ‹Below W9.heap.size W9 _›; (with_reducible refine (O1.out _).mono ?_); rintro e wa ⟨va, rfl, ka, hba⟩; have hSa := hS.trans (hba.mono hS.size); have KA := Lib.hid ka; clear ka; have tok1 : True := trivial)
        | (go_at_call 23; have _t := tok1; clear tok1; have hS := ‹Below W9.heap.size W9 _›; refine (HD1.out _ _ _ (HVd.out.below hS) KA.out).mono ?_; rintro e wb ⟨rfl, hbb⟩; have hSb := hS.trans (hbb.mono hS.size))
        | (go_at_call 22; have hS := ‹Below W9.heap.size W9 _›; (with_reducible refine (Om.out _).mono ?_); rintro e wc ⟨vc, rfl, kc, hbc⟩; have hSc := hS.trans (hbc.mono hS.size); have KC := Lib.hid kc; clear kc)
        | (go_at_call 23; have hS := ‹Below W9.heap.size W9 _›; refine (HD2.out _ _ _ (HVd.out.below hS) KC.out).mono ?_; rintro e wd ⟨rfl, hbd⟩; have hSd := hS.trans (hbd.mono hS.size)))
    all_goals
      have HBf := Lib.hid (HB10.out.trans (hSd.mono HB10.out.size))
      go_wp2
      go_ret
      exact ⟨rfl, HBf.out⟩

end Go.Proofs.Ytfmhedfiklidhaa

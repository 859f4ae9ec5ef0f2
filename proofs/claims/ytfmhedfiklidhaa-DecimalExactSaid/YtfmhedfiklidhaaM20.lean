/-
  Contracts of the functions that the statements reach, in the order in which they are built: DecV.
-/
import Derived.Test.YtfmhedfiklidhaaM18
import Derived.Test.YtfmhedfiklidhaaM19
set_option linter.unusedVariables false
set_option linter.unusedSimpArgs false
set_option linter.constructorNameAsVariable false
set_option linter.deprecated false

/-
  The walk of DecimalExact: by contract.
-/
namespace Go.Proofs.Ytfmhedfiklidhaa
open Go.RowKit

theorem RBx.nil (w : World) (T : Nat) : RBx (w.alloc (.cells #[.bool false, .slice none 0 0, .slice none 0 0] T)) w.heap.size ⟨false, [], []⟩ :=
  RBx.alloc (x := ⟨false, [], []⟩) (an := none) (ad := none) (cn := 0) (cd := 0) (Nat.le_refl _) (Nat.le_refl _) (U32s.nil _ _) (U32s.nil _ _) T
theorem ten_ne (n : Nat) : ratOf (tenR n) ≠ 0 := by
  rw [ratOf_tenR]
  intro h
  rw [← Rat.intCast_zero, Rat.intCast_inj] at h
  have : 0 < 10 ^ n := Nat.pow_pos (by decide)
  omega
theorem ten_qle (n : Nat) (hn : n ≤ 40) : QLe (ratOf (tenR n)) 42 := by
  rw [ratOf_tenR]
  refine ⟨?_, by rw [Rat.den_intCast]; exact Nat.one_lt_pow (by omega) (by omega)⟩
  rw [Rat.num_intCast, Int.natAbs_natCast]
  exact Nat.lt_of_lt_of_le (limbs_len_lt _) (Nat.pow_le_pow_right (by decide) (Nat.le_trans (limbs_pow10 n) (by omega)))
theorem exact_int {x : RatL} (hd : ¬ 0 < x.den.length) (n m : Nat) : ∃ z : Int, ratOf (ratL (ratOf x / ratOf (tenR n))) * (((10 ^ (n + m) : Nat) : Int) : Rat) = (z : Rat) := by
  have hx : ratOf x = ((sgn x.neg (lval x.num) : Int) : Rat) := by
    unfold ratOf
    have : underN x.den = 1 := by rw [List.length_eq_zero_iff.1 (by omega : x.den.length = 0)]; rfl
    rw [this, Rat.mkRat_one]
  refine ⟨sgn x.neg (lval x.num) * ((10 ^ m : Nat) : Int), ?_⟩
  have hne := ten_ne n
  rw [ratOf_ratL, hx]
  rw [ratOf_tenR] at hne ⊢
  have e : (((10 ^ (n + m) : Nat) : Int) : Rat) = (((10 ^ n : Nat) : Int) : Rat) * (((10 ^ m : Nat) : Int) : Rat) := by
    rw [← Rat.intCast_mul]; congr 1; rw [Nat.pow_add]; rfl
  rw [e, Rat.intCast_mul, ← Rat.mul_assoc, Rat.div_mul_cancel hne]
/-- x, _ := f(y, g(n)) with structs, in a variable: what is so while the statement runs. -/
structure ExJ (W : World) (X : Value) (n : Nat) (ten R : RatL) (d : Nat → Bool) (g : Nat → Value) (w : World) : Prop where
  bl : Below W.heap.size W w
  v0 : d 0 = true → g 0 = X
  v1 : d 1 = true → g 1 = .int .i64 (n : Int)
  v2 : d 2 = true → d 3 = false → RatV w (g 2) ten
  v3 : d 3 = true → ∃ v, g 3 = .tuple #[v, .int .i64 0] ∧ (d 8 = false → RatV w v R) ∧ (d 4 = true → g 4 = .tuple #[v, .int .i64 0]) ∧ (d 5 = true → g 5 = v)
  v6 : d 6 = true → g 6 = .int .i64 0
  v7 : d 7 = true → ∃ b, g 7 = .pointer (some ⟨b, 0, none⟩) ∧ W.heap.size ≤ b ∧ (d 8 = false → ∃ y, RBx w b y) ∧ (d 8 = true → RBx w b R)
  e4 : d 4 = true → d 3 = true
  e5 : d 5 = true → d 4 = true
  e6 : d 6 = true → d 4 = true
  e8 : d 8 = true → d 5 = true ∧ d 7 = true
section
variable {W w : World} {X : Value} {n : Nat} {ten R : RatL} {d : Nat → Bool} {g : Nat → Value}
theorem ExJ.start (hb : Below W.heap.size W w) (g : Nat → Value) : ExJ W X n ten R (fun _ => false) g w :=
  ⟨hb, fun h => absurd h (by decide), fun h => absurd h (by decide), fun h => absurd h (by decide), fun h => absurd h (by decide), fun h => absurd h (by decide), fun h => absurd h (by decide), fun h => absurd h (by decide), fun h => absurd h (by decide), fun h => absurd h (by decide), fun h => absurd h (by decide)⟩
theorem ExJ.grow {w' : World} (h : ExJ W X n ten R d g w) (hb : Below w.heap.size w w') : ExJ W X n ten R d g w' :=
  ⟨h.bl.trans (hb.mono h.bl.size), h.v0, h.v1, fun k1 k2 => (h.v2 k1 k2).below hb, fun k => let ⟨v, q1, q2, q3, q4⟩ := h.v3 k; ⟨v, q1, fun k8 => (q2 k8).below hb, q3, q4⟩, h.v6,
   fun k => let ⟨b, q1, q2, q3, q4⟩ := h.v7 k; ⟨b, q1, q2, fun k8 => let ⟨y, hy⟩ := q3 k8; ⟨y, hy.below hb⟩, fun k8 => (q4 k8).below hb⟩, h.e4, h.e5, h.e6, h.e8⟩
theorem ExJ.s0 (h : ExJ W X n ten R d g w) : ExJ W X n ten R (mark d 0) (upd g 0 X) w := ⟨h.bl, fun _ => rfl, h.v1, h.v2, h.v3, h.v6, h.v7, h.e4, h.e5, h.e6, h.e8⟩
theorem ExJ.s1 (h : ExJ W X n ten R d g w) : ExJ W X n ten R (mark d 1) (upd g 1 (.int .i64 (n : Int))) w := ⟨h.bl, h.v0, fun _ => rfl, h.v2, h.v3, h.v6, h.v7, h.e4, h.e5, h.e6, h.e8⟩
theorem ExJ.s2 {v : Value} (h : ExJ W X n ten R d g w) (hv : RatV w v ten) : ExJ W X n ten R (mark d 2) (upd g 2 v) w := ⟨h.bl, h.v0, h.v1, fun _ _ => hv, h.v3, h.v6, h.v7, h.e4, h.e5, h.e6, h.e8⟩
theorem ExJ.s3 {v : Value} (h : ExJ W X n ten R d g w) (h3 : d 3 = false) (hv : RatV w v R) : ExJ W X n ten R (mark d 3) (upd g 3 (.tuple #[v, .int .i64 0])) w :=
  have n4 : ∀ {p : Prop}, d 4 = true → p := fun k => absurd ((h.e4 k).symm.trans h3) (by decide)
  ⟨h.bl, h.v0, h.v1, fun _ k => Bool.noConfusion (show true = false from k), fun _ => ⟨v, rfl, fun _ => hv, fun k => n4 k, fun k => n4 (h.e5 k)⟩, h.v6, h.v7, fun _ => rfl, h.e5, h.e6, h.e8⟩
theorem ExJ.s4 (h : ExJ W X n ten R d g w) (h3 : d 3 = true) : ExJ W X n ten R (mark d 4) (upd g 4 (g 3)) w :=
  ⟨h.bl, h.v0, h.v1, h.v2, fun k => let ⟨v, q1, q2, q3, q4⟩ := h.v3 k; ⟨v, q1, q2, fun _ => q1, q4⟩, h.v6, h.v7, fun _ => h3, fun _ => rfl, fun _ => rfl, h.e8⟩
theorem ExJ.s5 {v : Value} (h : ExJ W X n ten R d g w) (h4 : d 4 = true) (hv : g 3 = .tuple #[v, .int .i64 0]) : ExJ W X n ten R (mark d 5) (upd g 5 v) w :=
  ⟨h.bl, h.v0, h.v1, h.v2, fun k => let ⟨v', q1, q2, q3, q4⟩ := h.v3 k; ⟨v', q1, q2, q3, fun _ => by
    have e := hv.symm.trans q1
    simp only [Value.tuple.injEq] at e
    have := congrArg (fun a => a[0]?) e
    simpa [upd] using this⟩, h.v6, h.v7, h.e4, fun _ => h4, h.e6, fun k => ⟨rfl, (h.e8 k).2⟩⟩
theorem ExJ.s6 (h : ExJ W X n ten R d g w) (h4 : d 4 = true) : ExJ W X n ten R (mark d 6) (upd g 6 (.int .i64 0)) w :=
  ⟨h.bl, h.v0, h.v1, h.v2, h.v3, fun _ => rfl, h.v7, h.e4, h.e5, fun _ => h4, h.e8⟩
theorem ExJ.s7 {T : Nat} (h : ExJ W X n ten R d g w) (h7 : d 7 = false) : ExJ W X n ten R (mark d 7) (upd g 7 (.pointer (some ⟨w.heap.size, 0, none⟩))) (w.alloc (.cells #[.bool false, .slice none 0 0, .slice none 0 0] T)) :=
  have H := h.grow (w' := w.alloc (.cells #[.bool false, .slice none 0 0, .slice none 0 0] T)) ((Below.refl _ _).alloc (Nat.le_refl _) _)
  ⟨H.bl, H.v0, H.v1, H.v2, H.v3, H.v6, fun _ => ⟨w.heap.size, rfl, h.bl.size, fun _ => ⟨_, RBx.nil w T⟩, fun k => absurd ((h.e8 k).2.symm.trans h7) (by decide)⟩, H.e4, H.e5, H.e6, fun k => ⟨(h.e8 k).1, rfl⟩⟩
theorem ExJ.s8 {b : Nat} {y : RatL} {V : Value} {an ad : Option Addr} {cn cd : Nat} (h : ExJ W X n ten R d g w) (h5 : d 5 = true) (h7 : d 7 = true) (hp : g 7 = .pointer (some ⟨b, 0, none⟩)) (hb : W.heap.size ≤ b) (hB : RBx w b y)
    (q1 : R.num.length ≤ cn) (q2 : R.den.length ≤ cd) (q3 : U32s w an R.num) (q4 : U32s w ad R.den) :
    ExJ W X n ten R (mark d 8) (upd g 8 V) (((w.setCell ⟨b, 0, none⟩ (.bool R.neg)).setCell ⟨b, 1, none⟩ (.slice an R.num.length cn)).setCell ⟨b, 2, none⟩ (.slice ad R.den.length cd)) :=
  have h3 := h.e4 (h.e5 h5)
  ⟨below_store3 h.bl hb _ _ _, h.v0, h.v1, fun _ k => absurd (h3.symm.trans k) (by decide), fun k => let ⟨v, q1, q2, q3, q4⟩ := h.v3 k; ⟨v, q1, fun k8 => Bool.noConfusion (show true = false from k8), q3, q4⟩, h.v6,
   fun _ => ⟨b, hp, hb, fun k => Bool.noConfusion (show true = false from k), fun _ => hB.store q1 q2 q3 q4⟩, h.e4, h.e5, h.e6, fun _ => ⟨h5, h7⟩⟩
end

set_option maxRecDepth 100000 in
set_option maxHeartbeats 6400000 in
theorem lawExact {w : World} {v : Value} {x : RatL} (hv : RatV w v x) (p : Int) (bp : -9223372036854775808 ≤ p ∧ p ≤ 9223372036854775807) (q : Int) (bq : -9223372036854775808 ≤ q ∧ q ≤ 9223372036854775807) :
    Calls Try.prog 9 #[v, .int .i64 p, .int .i64 q] w fun e w' => e = .returned (.bool true) ∧ Below w.heap.size w w' := by
  obtain ⟨bp1, bp2⟩ := bp
  obtain ⟨bq1, bq2⟩ := bq
  have HLim := Lib.hid hv.lim
  have HA := Lib.hid (fun wv => lAwake wv)
  obtain ⟨an, ad, cn, cd, rfl, h2, h3, h4, h5⟩ := hv.ex
  have hb0 : Below w.heap.size w (w.alloc (.cells #[.bool x.neg, .slice an x.num.length cn, .slice ad x.den.length cd] 25)) := (Below.refl _ w).alloc (Nat.le_refl _) _
  have HBx := Lib.hid (Box3.alloc w (.bool x.neg) (.slice an x.num.length cn) (.slice ad x.den.length cd) 25)
  have HV := Lib.hid (hv.below hb0)
  have HB := Lib.hid hb0
  clear hv h4 h5 hb0
  go_enter Try.func9, Try.ntmps9
  go_upto_region 1 with fail
  generalize w.alloc (.cells #[.bool x.neg, .slice an x.num.length cn, .slice ad x.den.length cd] 25) = W at *
  go_wp2_with fail
  refine (HA.out _).mono ?_
  rintro e w1 ⟨rfl, hb1⟩
  have HB1 := Lib.hid (HB.out.trans (hb1.mono HB.out.size))
  have HV1 := Lib.hid (HV.out.below hb1)
  have HBx1 := Lib.hid (HBx.out.below hb1)
  clear hb1 HB HV HBx
  obtain ⟨x0, x1, x2, _, xlt⟩ := HBx1.out
  go_wp2_with fail
  refine (lFair HV1.out).mono ?_
  rintro e w2 ⟨rfl, hb2⟩
  have HB2 := Lib.hid (HB1.out.trans (hb2.mono HB1.out.size))
  have HV2 := Lib.hid (HV1.out.below hb2)
  have HBx2 := Lib.hid (HBx1.out.below hb2)
  clear hb2 HB1 HV1 HBx1 x0 x1 x2 xlt
  cases hf : fairR x with
  | false =>
    go_wp2_with fail
    refine (HA.out _).mono ?_
    rintro e w3 ⟨rfl, hb3⟩
    have HB3 := Lib.hid (HB2.out.trans (hb3.mono HB2.out.size))
    clear hb3
    go_wp2
    go_ret
    exact ⟨rfl, HB3.out⟩
  | true =>
    obtain ⟨f1, f2, f3⟩ := fair_parts hf
    clear hf
    obtain ⟨x0, x1, x2, _, xlt⟩ := HBx2.out
    by_cases cd0 : 0 < x.den.length
    · have qd : decide (0 < x.den.length) = true := decide_eq_true cd0
      go_wp2_with fail
      refine (HA.out _).mono ?_
      rintro e w3 ⟨rfl, hb3⟩
      have HB3 := Lib.hid (HB2.out.trans (hb3.mono HB2.out.size))
      clear hb3
      go_wp2
      go_ret
      exact ⟨rfl, HB3.out⟩
    have qd : decide (0 < x.den.length) = false := decide_eq_false cd0
    by_cases c0 : p < 0
    · have q0 : decide (p < 0) = true := decide_eq_true (by omega)
      clear c0
      go_wp2_with fail
      refine (HA.out _).mono ?_
      rintro e w3 ⟨rfl, hb3⟩
      have HB3 := Lib.hid (HB2.out.trans (hb3.mono HB2.out.size))
      clear hb3
      go_wp2
      go_ret
      exact ⟨rfl, HB3.out⟩
    have q0 : decide (p < 0) = false := decide_eq_false (by omega)
    by_cases c1 : 30 < p
    · have q1 : decide (30 < p) = true := decide_eq_true (by omega)
      clear c1
      go_wp2_with fail
      refine (HA.out _).mono ?_
      rintro e w3 ⟨rfl, hb3⟩
      have HB3 := Lib.hid (HB2.out.trans (hb3.mono HB2.out.size))
      clear hb3
      go_wp2
      go_ret
      exact ⟨rfl, HB3.out⟩
    have q1 : decide (30 < p) = false := decide_eq_false (by omega)
    by_cases c2 : q < 0
    · have q2 : decide (q < 0) = true := decide_eq_true (by omega)
      clear c2
      go_wp2_with fail
      refine (HA.out _).mono ?_
      rintro e w3 ⟨rfl, hb3⟩
      have HB3 := Lib.hid (HB2.out.trans (hb3.mono HB2.out.size))
      clear hb3
      go_wp2
      go_ret
      exact ⟨rfl, HB3.out⟩
    have q2 : decide (q < 0) = false := decide_eq_false (by omega)
    by_cases c3 : 10 < q
    · have q3 : decide (10 < q) = true := decide_eq_true (by omega)
      clear c3
      go_wp2_with fail
      refine (HA.out _).mono ?_
      rintro e w3 ⟨rfl, hb3⟩
      have HB3 := Lib.hid (HB2.out.trans (hb3.mono HB2.out.size))
      clear hb3
      go_wp2
      go_ret
      exact ⟨rfl, HB3.out⟩
    have q3 : decide (10 < q) = false := decide_eq_false (by omega)
    obtain ⟨n, hn⟩ : ∃ n : Nat, p = (n : Int) := ⟨p.toNat, by omega⟩
    obtain ⟨m, hm⟩ : ∃ m : Nat, q = (m : Int) := ⟨q.toNat, by omega⟩
    subst hn hm
    have hn : n ≤ 30 := by omega
    have hm : m ≤ 10 := by omega
    clear c0 c1 c2 c3
    have HDv : Hid (∀ (wv : World) (v u : Value), RatV wv v x → RatV wv u (tenR n) → Calls Try.prog 24 #[v, u] wv (RetRE wv (ratL (ratOf x / ratOf (tenR n))) 0)) := fun wv v u hv hu => r3Div hv hu ⟨by omega, by omega⟩ ((tenR_le n).mono (by omega)) (ten_ne n)
    have HPw := Lib.hid (fun (wv : World) => lPower (w := wv) n (by omega))
    have hQt : QLe (ratOf (tenR n)) 42 := ten_qle n (by omega)
    have hQx : QLe (ratOf x) 9 := QLe.ratOf HLim.out ⟨f1, f2⟩
    have hRl := ((hQx.div hQt).mono (show 9 + 42 ≤ 60 by omega)).ratL
    have hRc : canonL (ratL (ratOf x / ratOf (tenR n))) = ratL (ratOf x / ratOf (tenR n)) := (valid_ratL _).symm
    have hInt := exact_int cd0 n m
    have hRlim := ratL_lim (ratOf x / ratOf (tenR n))
    generalize ratL (ratOf x / ratOf (tenR n)) = R at *
    generalize tenR n = ten at *
    have HRl := Lib.hid hRl
    have HRc := Lib.hid hRc
    have HIn := Lib.hid hInt
    have HRlim := Lib.hid hRlim
    clear hQt hQx f3 cd0 hRl hRc hInt hRlim
    have HBW := Lib.hid (fun (wx : World) (hb : Below w2.heap.size w2 wx) => HBx2.out.below hb)
    go_upto_region 3 with fail
    go_cut [7] (fun s7 wx => ∃ b, s7 = .pointer (some ⟨b, 0, none⟩) ∧ RBx wx b R ∧ Below w2.heap.size w2 wx)
    case first =>
      clear x0 x1 x2 xlt
      refine wp_region_slots_gen 9 (by kernel_rfl) (by kernel_rfl) (by kernel_rfl) (by kernel_rfl) (by decide) (ExJ w2 (.agg #[.bool x.neg, .slice an x.num.length cn, .slice ad x.den.length cd]) n ten R) (fun g => ExJ.start (Below.refl _ _).drew g) ?_ ?_
      · intro ops
        simp only [List.take_succ_cons, List.take_zero, ShowsJ]
        refine ⟨?_, ?_, ?_, ?_, ?_, ?_, ?_, ?_, ?_, trivial⟩
        · intro d g wc hJ hd hW
          simp only [Waits, Region.binds, forall_const, Bool.false_eq_true, false_implies, and_true, true_and] at hW
          simp [fillFrom, Act.put]
          have HJ := Lib.hid hJ
          obtain ⟨x0, x1, x2, _, _⟩ := HBW.out wc hJ.bl
          clear hJ
          go_wp2
          exact ⟨_, rfl, HJ.out.s0⟩
        · intro d g wc hJ hd hW
          simp only [Waits, Region.binds, forall_const, Bool.false_eq_true, false_implies, and_true, true_and] at hW
          simp [fillFrom, Act.put]
          have HJ := Lib.hid hJ
          clear hJ
          go_wp2
          exact ⟨_, rfl, HJ.out.s1⟩
        · intro d g wc hJ hd hW
          simp only [Waits, Region.binds, forall_const, Bool.false_eq_true, false_implies, and_true, true_and] at hW
          simp [fillFrom, Act.put]
          have HJ := Lib.hid hJ
          generalize hg1 : g 1 = y1
          obtain rfl := hg1.symm.trans (hJ.v1 hW)
          clear hJ
          go_wp2_with fail
          refine (HPw.out _).mono ?_
          rintro e w3 ⟨v3, rfl, k3, hb3⟩
          have HJ1 := Lib.hid ((HJ.out.grow hb3).s2 k3)
          clear k3 hb3 HJ
          go_wp2
          exact ⟨_, rfl, HJ1.out⟩
        · intro d g wc hJ hd hW
          simp only [Waits, Region.binds, forall_const, Bool.false_eq_true, false_implies, and_true, true_and] at hW
          simp [fillFrom, Act.put]
          have HJ := Lib.hid hJ
          have HT := Lib.hid (hJ.v2 hW.2.1 hd)
          have HD3 := Lib.hid hd
          generalize hg0 : g 0 = y0
          obtain rfl := hg0.symm.trans (hJ.v0 hW.1)
          have HC := Lib.hid (HDv.out wc _ _ (HV2.out.below hJ.bl) HT.out)
          clear hJ hd
          go_wp2_with fail
          refine HC.out.mono ?_
          rintro e w3 ⟨v3, rfl, k3, hb3⟩
          have HJ1 := Lib.hid ((HJ.out.grow hb3).s3 HD3.out k3)
          clear k3 hb3 HJ HC
          go_wp2
          exact ⟨_, rfl, HJ1.out⟩
        · intro d g wc hJ hd hW
          simp only [Waits, Region.binds, forall_const, Bool.false_eq_true, false_implies, and_true, true_and] at hW
          simp [fillFrom, Act.put]
          have HJ := Lib.hid hJ
          have HJ1 := Lib.hid (hJ.s4 hW)
          clear hJ
          go_wp2
          exact ⟨_, rfl, HJ1.out⟩
        · intro d g wc hJ hd hW
          simp only [Waits, Region.binds, forall_const, Bool.false_eq_true, false_implies, and_true, true_and] at hW
          simp [fillFrom, Act.put]
          have HJ := Lib.hid hJ
          obtain ⟨v, q1, _, q3, _⟩ := hJ.v3 (hJ.e4 hW)
          have HJ1 := Lib.hid (hJ.s5 hW q1)
          generalize hg4 : g 4 = y4
          obtain rfl := hg4.symm.trans (q3 hW)
          clear hJ q1 q3
          go_wp2
          exact ⟨_, rfl, HJ1.out⟩
        · intro d g wc hJ hd hW
          simp only [Waits, Region.binds, forall_const, Bool.false_eq_true, false_implies, and_true, true_and] at hW
          simp [fillFrom, Act.put]
          have HJ := Lib.hid hJ
          have hW := hW.1
          obtain ⟨v, q1, _, q3, _⟩ := hJ.v3 (hJ.e4 hW)
          have HJ1 := Lib.hid (hJ.s6 hW)
          generalize hg4 : g 4 = y4
          obtain rfl := hg4.symm.trans (q3 hW)
          clear hJ q1 q3
          go_wp2
          exact ⟨_, rfl, HJ1.out⟩
        · intro d g wc hJ hd hW
          simp only [Waits, Region.binds, forall_const, Bool.false_eq_true, false_implies, and_true, true_and] at hW
          simp [fillFrom, Act.put]
          have HJ := Lib.hid hJ
          have HJ1 := Lib.hid (hJ.s7 (T := 25) hd)
          clear hJ
          go_wp2
          exact ⟨_, rfl, HJ1.out⟩
        · intro d g wc hJ hd hW
          simp only [Waits, Region.binds, forall_const, Bool.false_eq_true, false_implies, and_true, true_and] at hW
          simp [fillFrom, Act.put]
          have HJ := Lib.hid hJ
          obtain ⟨b, p1, p2, p3, _⟩ := hJ.v7 hW.1
          obtain ⟨y, p4⟩ := p3 hd
          have h5 : d 5 = true := hW.2.1
          obtain ⟨v, q1, q2, _, q4⟩ := hJ.v3 (hJ.e4 (hJ.e5 h5))
          have q5 := q4 h5
          obtain ⟨an', ad', cn', cd', rfl, r2, r3, r4, r5⟩ := (q2 hd).ex
          have HJ1 := Lib.hid (fun V => hJ.s8 (V := V) h5 hW.1 p1 p2 p4 r2 r3 r4 r5)
          obtain ⟨_, _, _, _, ⟨z0, z1, z2, zf, zlt⟩, _⟩ := p4.ex
          generalize hg7 : g 7 = y7
          obtain rfl := hg7.symm.trans p1
          generalize hg5 : g 5 = y5
          obtain rfl := hg5.symm.trans q5
          clear hJ q1 q2 q4 q5 r4 r5 p1 p3 p4
          go_wp2
          exact ⟨trivial, _, HJ1.out (.bool false)⟩
      · intro ops d g wc hA hJ
        obtain ⟨b, p1, p2, _, p4⟩ := hJ.v7 (hA 7 (by decide))
        have p5 := Lib.hid (p4 (hA 8 (by decide)))
        have h6 := hJ.v6 (hA 6 (by decide))
        have HBl := Lib.hid hJ.bl
        simp only [List.drop_succ_cons, List.drop_zero, List.take_succ_cons, List.take_zero]
        simp [fillFrom, Act.put]
        generalize hg7 : g 7 = y7
        obtain rfl := hg7.symm.trans p1
        generalize hg6 : g 6 = y6
        obtain rfl := hg6.symm.trans h6
        clear hJ hA p1 h6 p4
        go_wp2
        go_meet
        exact ⟨b, rfl, p5.out, HBl.out⟩
    case rest =>
      obtain ⟨b, rfl, hRb, hb3⟩ := hcut
      have HB3 := Lib.hid (HB2.out.trans (hb3.mono HB2.out.size))
      have HRb := Lib.hid hRb
      obtain ⟨en, ed, hn', hd', hbx, r2, r3, r4, r5⟩ := hRb.ex
      have HVR : Hid (RatV wc (.agg #[.bool R.neg, .slice en R.num.length hn', .slice ed R.den.length hd']) R) := ⟨en, ed, hn', hd', rfl, r2, r3, r4, r5⟩
      have HBb := Lib.hid hbx
      have hRl1 := HRl.out.num
      have hRl2 := HRl.out.den
      obtain ⟨z0, z1, z2, zf, zlt⟩ := hbx
      obtain ⟨P, hP⟩ : ∃ P : Nat, P = n + m := ⟨_, rfl⟩
      have hPi : (n : Int) + (m : Int) = (P : Int) := by omega
      have hP40 : P ≤ 40 := by omega
      have hlen : (digN (roundQ (lval R.num) (underN R.den) P)).length ≤ 3000 := by
        have hD := underN_pos R.den
        have hle : roundQ (lval R.num) (underN R.den) P ≤ lval R.num * 10 ^ P + 1 := by
          unfold roundQ
          refine Nat.le_trans (Nat.div_le_div_right (show lval R.num * 10 ^ P * 2 + underN R.den ≤ (lval R.num * 10 ^ P + 1) * (underN R.den * 2) from ?_)) (by rw [Nat.mul_div_cancel _ (by omega)]; exact Nat.le_refl _)
          have h1 : lval R.num * 10 ^ P ≤ lval R.num * 10 ^ P * underN R.den := Nat.le_mul_of_pos_right _ hD
          rw [Nat.add_mul, Nat.one_mul, ← Nat.mul_assoc]
          omega
        have hN : (limbs (lval R.num)).length ≤ 60 := Nat.le_trans (limbs_len_of_lval HRlim.out.1) hRl1
        have hTl := limbs_pow10 P
        have h2 : (limbs (lval R.num * 10 ^ P)).length ≤ 101 := Nat.le_trans (limbs_mul_le _ _) (by omega)
        have h3 : (limbs (lval R.num * 10 ^ P + 1)).length ≤ 102 := limbs_add_le _ _ 101 h2 (by rw [limbs_one]; simp)
        have h4 := Nat.le_trans (limbs_len_mono hle) h3
        have h5 : nd (roundQ (lval R.num) (underN R.den) P) ≤ 1020 := Nat.le_trans (nd_limbs (limbs_len_lt _)) (by omega)
        rw [digN_len]
        split <;> omega
      have hTl : (fixedL R.neg (lval R.num) (underN R.den) P).length ≤ 100000 := Nat.le_trans fixedL_len (by omega)
      have HFx := Lib.hid (dFixed HVR.out HRc.out (by omega) (by omega) P (by omega))
      have HP2 : Hid (∀ wv : World, Calls Try.prog 14 #[.string (Str (fixedL R.neg (lval R.num) (underN R.den) P))] wv (RetP wv (R, 0, 0))) := fun wv => by
        have h := dParse (w := wv) hTl
        obtain ⟨z, hz⟩ := HIn.out
        rw [fixed_exact HRc.out (by rw [hP]; exact hz) (by omega)] at h
        exact h
      have HSm : Hid (∀ (wv : World) (v u : Value), RatV wv v R → RatV wv u R → Calls Try.prog 16 #[v, u] wv fun e w' => e = .returned (.bool true) ∧ Below wv.heap.size wv w') := fun wv v u hv hu => (r3Same hv hu).mono fun e w' ⟨he, hb⟩ => ⟨by rw [he, decide_eq_true rfl], hb⟩
      generalize fixedL R.neg (lval R.num) (underN R.den) P = TX at *
      clear hRb hb3 r2 r3 r4 r5 hlen hTl hRl1 hRl2 zf x0 x1 x2 xlt HPw HDv hP
      go_wp2_with fail
      refine HFx.out.mono ?_
      rintro e w3 ⟨rfl, hb3⟩
      have HB4 := Lib.hid (HB3.out.trans (hb3.mono HB3.out.size))
      have HV4 := Lib.hid (HVR.out.below hb3)
      have HBb4 := Lib.hid (HBb.out.below hb3)
      clear hb3 z0 z1 z2 zlt
      go_wp2_with fail
      refine (HP2.out _).mono ?_
      rintro e w4 ⟨v, rfl, k4, hb4⟩
      obtain ⟨bn, bd, dn, dd, rfl, g2, g3, g4, g5⟩ := k4.ex
      have hb5 : Below w4.heap.size w4 (w4.alloc (.cells #[.bool R.neg, .slice bn R.num.length dn, .slice bd R.den.length dd] 25)) := (Below.refl _ w4).alloc (Nat.le_refl _) _
      have HBy := Lib.hid (Box3.alloc w4 (.bool R.neg) (.slice bn R.num.length dn) (.slice bd R.den.length dd) 25)
      have hbb := hb4.trans (hb5.mono hb4.size)
      have HU := Lib.hid (k4.below hb5)
      have HV5 := Lib.hid (HV4.out.below hbb)
      have HBb5 := Lib.hid (HBb4.out.below hbb)
      have HB5 := Lib.hid (HB4.out.trans (hbb.mono HB4.out.size))
      obtain ⟨g', hg⟩ : ∃ g, g = w4.heap.size := ⟨_, rfl⟩
      clear hb4 k4 g4 g5 hb5 hbb HV4 HBb4
      go_upto_region 6 with fail
      rw [← hg] at HBy ⊢
      generalize w4.alloc (.cells #[.bool R.neg, .slice bn R.num.length dn, .slice bd R.den.length dd] 25) = W4 at *
      clear hg
      obtain ⟨z0, z1, z2, _, zlt⟩ := HBb5.out
      obtain ⟨y0, y1, y2, _, ylt⟩ := HBy.out
      go_wp2_with fail
      refine (HSm.out _ _ _ HV5.out HU.out).mono ?_
      rintro e w6 ⟨rfl, hb6⟩
      have HB6 := Lib.hid (HB5.out.trans (hb6.mono HB5.out.size))
      clear hb6
      go_wp2
      go_ret
      exact ⟨rfl, HB6.out⟩

end Go.Proofs.Ytfmhedfiklidhaa

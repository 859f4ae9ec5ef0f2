/-
  Contracts of the functions that the statement reaches: RefQ, RefR, RefS, RefT, RKB.
-/
import Derived.Test.YtoppijdedkdjeaaGreatG19
set_option linter.unusedVariables false
set_option linter.unusedSimpArgs false
set_option linter.constructorNameAsVariable false
set_option linter.deprecated false
set_option maxRecDepth 100000
set_option maxHeartbeats 3200000
namespace Go.Proofs.YtoppijdedkdjeaaGreat
open Go.RowKit
open Go.Lib (hid)
structure OneR (w W : World) (g : Nat) (p q r : Value) : Prop where
 a : Box3 W g p q r
 c : Box3 W (g + 1) (.bool false) (.slice none 0 0) (.slice none 0 0)
 nc : NoInt W (g + 1)
 bl : Below g w W
theorem OneR.mk' (w : World) (p q r : Value) (T : Nat) : OneR w ((w.alloc (.cells #[p, q, r] T)).alloc (.cells #[.bool false, .slice none 0 0, .slice none 0 0] T)) w.heap.size p q r := by
 have step : ∀ (W : World) (o : Obj), Below W.heap.size W (W.alloc o) := fun W o => (Below.refl _ _).alloc (Nat.le_refl _) _
 have s1 := step w (.cells #[p, q, r] T)
 have s3 := step (w.alloc (.cells #[p, q, r] T)) (.cells #[.bool false, .slice none 0 0, .slice none 0 0] T)
 have b1 := Box3.alloc w p q r T
 have b3 := Box3.alloc (w.alloc (.cells #[p, q, r] T)) (.bool false) (.slice none 0 0) (.slice none 0 0) T
 have n3 := NoInt.alloc (w.alloc (.cells #[p, q, r] T)) #[.bool false, .slice none 0 0, .slice none 0 0] T (by simp)
 have b1' := b1.below s3
 have bl := s1.trans (s3.mono (by simp))
 simp only [World.size_alloc] at b3 n3
 exact ⟨b1', b3, n3, bl⟩
theorem r3Neg {w : World} {v : Value} {x : RatL} (hv : RatV w v x) (hx : RatLe x 1048576) :
  Calls Tryz.prog 80 #[v] w (RetR w (ratL (-ratOf x))) := by
 obtain ⟨an, ad, cn, cd, rfl, a2, a3, a4, a5⟩ := hv.ex
 have HQ : Hid (ratL (-ratOf x) = canonL ⟨!x.neg, x.num, x.den⟩) := by
  unfold Hid
  rw [canonL_ratL]
  congr 1
  exact (negQ _ _ _).symm
 have hl1 := a4.len
 have hl2 := a5.len
 have A4 := hid a4
 have A5 := hid a5
 have HX : Hid (RatLe ⟨!x.neg, x.num, x.den⟩ 1048576) := ⟨hx.num, hx.den⟩
 clear hv a4 a5 hx
 go_enter Tryz.func80, Tryz.ntmps80
 go_wp2_with fail
 have hF := OneR.mk' w (.bool (!x.neg)) (.slice an x.num.length cn) (.slice ad x.den.length cd) 37
 generalize (w.alloc (.cells #[.bool (!x.neg), .slice an x.num.length cn, .slice ad x.den.length cd] 37)).alloc (zerO 37) = W at *
 have HF := hid hF
 have hC := r3Canon (x := ⟨!x.neg, x.num, x.den⟩) ⟨an, ad, cn, cd, rfl, a2, a3, A4.out.below hF.bl, A5.out.below hF.bl⟩ HX.out
 have HC := hid hC
 clear hF hC A4 A5
 refine HC.out.mono ?_
 rintro e w5 ⟨v5, rfl, ⟨bn', bd', m1, m2, rfl, k3, k4, k5, k6⟩, k2⟩
 obtain ⟨r0, r1, r2, rf, rlt⟩ := HF.out.c.below k2
 have hN5 := hid (HF.out.nc.below k2 HF.out.c.lt)
 have K5 := hid k5
 have K6 := hid k6
 have hB5 := hid (HF.out.bl.trans (k2.mono (by have := HF.out.a.lt; omega)))
 clear HC k5 k6 k2
 generalize canonL ⟨!x.neg, x.num, x.den⟩ = R at *
 go_wp2
 exact bodyPost_ret (v := .agg #[.bool R.neg, .slice bn' R.num.length m1, .slice bd' R.den.length m2]) (by simp [results, Tryz.results80, go_sem, r0, r1, r2]) rfl ⟨_, rfl, by rw [HQ.out]; exact RatV.store hN5.out k3 k4 K5.out K6.out, below_store3 hB5.out (by omega) _ _ _⟩
theorem ratL_le {x : RatL} {k : Nat} (hx : x.Lim) (h : RatLe x k) : RatLe (ratL (-ratOf x)) (k + 1) := (QLe.ratOf hx h).neg.ratL
theorem r3Sub {w : World} {v u : Value} {x y : RatL} (hv : RatV w v x) (hu : RatV w u y) (hx : RatLe x 524286) (hy : RatLe y 524285) :
  Calls Tryz.prog 41 #[v, u] w (RetR w (ratL (ratOf x - ratOf y))) := by
 have HVx := hid hv
 have HVy := hid hu
 have hny := ratL_le hu.lim hy
 obtain ⟨an, ad, cn, cd, rfl, a2, a3, a4, a5⟩ := hv.ex
 obtain ⟨bn, bd, dn, dd, rfl, b2, b3, b4, b5⟩ := hu.ex
 have HQ : Hid (ratL (ratOf x - ratOf y) = ratL (ratOf x + ratOf (ratL (-ratOf y)))) := by
  unfold Hid; rw [ratOf_ratL, Rat.sub_eq_add_neg]
 have HNy := hid hny
 have hl1 := a4.len
 have hl2 := a5.len
 have hl3 := b4.len
 have hl4 := b5.len
 have HX := hid hx
 have HY := hid (hy.mono (show 524285 <= 1048576 by omega))
 clear hv hu a4 a5 b4 b5 hx hy hny
 go_enter Tryz.func41, Tryz.ntmps41
 go_wp2_with fail
 have hF := TwoR.mk' w (.bool x.neg) (.slice an x.num.length cn) (.slice ad x.den.length cd) (.bool y.neg) (.slice bn y.num.length dn) (.slice bd y.den.length dd) 37
 generalize ((w.alloc (ratO x an cn ad cd 37)).alloc (ratO y bn dn bd dd 37)).alloc (zerO 37) = W at *
 have HF := hid hF
 have HVX := hid (HVx.out.below hF.bl)
 have HVY := hid (HVy.out.below hF.bl)
 have xbl : Below W.heap.size W W.drew := (Below.refl _ _).drew
 clear hF HVx HVy
 go_region_held3 (fun w' => w'.cell? ⟨w.heap.size, 0, none⟩ = some (.bool x.neg) /\ w'.cell? ⟨w.heap.size, 1, none⟩ = some (.slice an x.num.length cn) /\ w'.cell? ⟨w.heap.size, 2, none⟩ = some (.slice ad x.den.length cd) /\
   w'.cell? ⟨w.heap.size + 1, 0, none⟩ = some (.bool y.neg) /\ w'.cell? ⟨w.heap.size + 1, 1, none⟩ = some (.slice bn y.num.length dn) /\ w'.cell? ⟨w.heap.size + 1, 2, none⟩ = some (.slice bd y.den.length dd))
  (first | exact S33_keep HF.out.a HF.out.b HF.out.a.lt HF.out.b.lt ‹Below W.heap.size W _› | exact S33_keep (B := w.heap.size + 1 + 1) HF.out.a HF.out.b (Nat.lt_succ_of_lt (Nat.lt_succ_self _)) (Nat.lt_succ_self _) (below_store3 (hS5.mono (Nat.le_of_lt HF.out.c.lt)) (Nat.le_refl _) _ _ _))
  (first
   | (go_at_call 80; have hS := ‹Below W.heap.size W _›; refine (r3Neg (HVY.out.below hS) HY.out).mono ?_; rintro e w1 ⟨v1, rfl, g1, g2⟩
      have hS1 := hS.trans (g2.mono hS.size); have G1 := hid g1; clear g1)
   | (go_at_call 22; have hS := ‹Below W.heap.size W _›; refine (r3Add (HVX.out.below hS) G1.out HX.out HNy.out).mono ?_
      rintro e w5 ⟨v5, rfl, ⟨bn', bd', m1, m2, rfl, k3, k4, k5, k6⟩, k2⟩
      have hS5 := hS.trans (k2.mono hS.size)
      obtain ⟨r0, r1, r2, rf, rlt⟩ := HF.out.c.below hS5
      have hN5 := hid (HF.out.nc.below hS5 HF.out.c.lt)
      have K5 := hid k5
      have K6 := hid k6
      have hB5 := hid (HF.out.bl.trans (hS5.mono (by have := HF.out.a.lt; omega)))))
 generalize ratL (ratOf x + ratOf (ratL (-ratOf y))) = R at *
 go_wp2
 exact bodyPost_ret (v := .agg #[.bool R.neg, .slice bn' R.num.length m1, .slice bd' R.den.length m2]) (by simp [results, Tryz.results41, go_sem, r0, r1, r2]) rfl ⟨_, rfl, by rw [HQ.out]; exact RatV.store hN5.out k3 k4 K5.out K6.out, below_store3 hB5.out (by omega) _ _ _⟩
theorem r3Sign {w : World} {v : Value} {x : RatL} (hv : RatV w v x) (hx : x.num.length <= 17592186044416) :
  Calls Tryz.prog 59 #[v] w fun e w' => e = .returned (.int .i64 (signQ (ratOf x))) /\ Below w.heap.size w w' := by
 obtain ⟨an, ad, cn, cd, rfl, a2, a3, a4, a5⟩ := hv.ex
 have hl1 := a4.len
 have hb : Below w.heap.size w (w.alloc (ratO x an cn ad cd 37)) := (Below.refl _ _).alloc (Nat.le_refl _) _
 have hI : IntV (w.alloc (ratO x an cn ad cd 37)) (.agg #[.bool x.neg, .slice an x.num.length cn]) x.neg (lval x.num) x.num.length := ⟨an, cn, _, rfl, a2, a4.below hb, rfl, Nat.le_refl _⟩
 have HS := hid (r2Sign hI hx)
 have HZ := hid (signZ_signQ x)
 have HB := hid hb
 clear hv a4 a5 hI hb
 go_enter Tryz.func59, Tryz.ntmps59
 go_wp2_with fail
 refine HS.out.mono ?_
 rintro e w1 ⟨rfl, hb1⟩
 have HB1 := hid (HB.out.trans (hb1.mono HB.out.size))
 clear HS hb1
 go_wp2
 go_ret
 exact ⟨ret_int HZ.out, HB1.out⟩
theorem r3Cmp {w : World} {v u : Value} {x y : RatL} (hv : RatV w v x) (hu : RatV w u y) (hx : RatLe x 524286) (hy : RatLe y 524285) :
  Calls Tryz.prog 57 #[v, u] w fun e w' => e = .returned (.int .i64 (cmpQ (ratOf x) (ratOf y))) /\ Below w.heap.size w w' := by
 have hlen : RatLe (ratL (ratOf x - ratOf y)) 17592186044416 := (((QLe.ratOf hv.lim hx).sub (QLe.ratOf hu.lim hy)).mono (by omega)).ratL
 have HL := hid hlen.num
 have HVx := hid hv
 have HVy := hid hu
 obtain ⟨an, ad, cn, cd, rfl, a2, a3, a4, a5⟩ := hv.ex
 obtain ⟨bn, bd, dn, dd, rfl, b2, b3, b4, b5⟩ := hu.ex
 have hl1 := a4.len
 have hl2 := a5.len
 have hl3 := b4.len
 have hl4 := b5.len
 have hb : Below w.heap.size w ((w.alloc (ratO x an cn ad cd 37)).alloc (ratO y bn dn bd dd 37)) := ((Below.refl _ _).alloc (Nat.le_refl _) _).alloc (by simp) _
 have HS := hid (r3Sub (HVx.out.below hb) (HVy.out.below hb) hx hy)
 have HB := hid hb
 have HZ : Hid (signQ (ratOf (ratL (ratOf x - ratOf y))) = cmpQ (ratOf x) (ratOf y)) := by unfold Hid; rw [ratOf_ratL, signQ_sub]
 clear hv hu a4 a5 b4 b5 hx hy hb hlen HVx HVy
 go_enter Tryz.func57, Tryz.ntmps57
 go_wp2_with fail
 refine HS.out.mono ?_
 rintro e w1 ⟨v1, rfl, g1, hb1⟩
 have HSg := hid (r3Sign g1 HL.out)
 have HB1 := hid (HB.out.trans (hb1.mono HB.out.size))
 clear HS hb1 g1
 go_wp2_with fail
 refine HSg.out.mono ?_
 rintro e w2 ⟨rfl, hb2⟩
 have HB2 := hid (HB1.out.trans (hb2.mono HB1.out.size))
 clear HSg hb2
 go_wp2
 go_ret
 exact ⟨ret_int HZ.out, HB2.out⟩
theorem signQ_zero {q : Rat} : (signQ q = 0) ↔ q = 0 := by
 unfold signQ
 by_cases h1 : q < 0
 ·rw [if_pos h1]; constructor
  ·intro h; omega
  ·intro h; subst h; exact absurd h1 (by decide)
 ·rw [if_neg h1]
  by_cases h2 : 0 < q
  ·rw [if_pos h2]; constructor
   ·intro h; omega
   ·intro h; subst h; exact absurd h2 (by decide)
  ·rw [if_neg h2]
   exact ⟨fun _ => Rat.le_antisymm (Rat.not_lt.1 h2) (Rat.not_lt.1 h1), fun _ => rfl⟩
theorem ratOf_zero {x : RatL} (h : ratOf x ≠ 0) : 0 < lval x.num := by
 rcases Nat.eq_zero_or_pos (lval x.num) with h0 | h0
 ·exfalso
  apply h
  unfold ratOf
  rw [h0]
  have : sgn x.neg 0 = 0 := by cases x.neg <;> rfl
  rw [this, Rat.zero_mkRat]
 ·exact h0
def RetRE (w : World) (x : RatL) (c : Int) (e : Ending) (w' : World) : Prop := ∃ v, e = .returned (.tuple #[v, .int .i64 c]) /\ RatV w' v x /\ Below w.heap.size w w'
theorem r3Div {w : World} {v u : Value} {x y : RatL} (hv : RatV w v x) (hu : RatV w u y) (hx : RatLe x 1048575) (hy : RatLe y 1048575) (h0 : ratOf y ≠ 0) :
  Calls Tryz.prog 34 #[v, u] w (RetRE w (ratL (ratOf x / ratOf y)) 0) := by
 have HVy := hid hu
 obtain ⟨an, ad, cn, cd, rfl, a2, a3, a4, a5⟩ := hv.ex
 obtain ⟨bn, bd, dn, dd, rfl, b2, b3, b4, b5⟩ := hu.ex
 have hyp := ratOf_zero h0
 have hQ : Hid (ratL (ratOf x / ratOf y) = quotN (x.neg != y.neg) (lval x.num * underN y.den) (underN x.den * lval y.num)) := by
  unfold Hid
  rw [quotN_ratL _ _ (Nat.mul_pos (underN_pos _) hyp), divQ]; rfl
 obtain ⟨hx1, hx2⟩ := hx
 obtain ⟨hy1, hy2⟩ := hy
 have hl1 := a4.len
 have hl2 := a5.len
 have hl3 := b4.len
 have hl4 := b5.len
 have A4 := hid a4
 have A5 := hid a5
 have B4 := hid b4
 have B5 := hid b5
 have hs0 : (signQ (ratOf y) == 0) = false := by rw [beq_eq_false_iff_ne]; intro e; exact h0 (signQ_zero.1 e)
 have HDp := hid (Nat.mul_pos (underN_pos x.den) hyp)
 clear hv hu a4 a5 b4 b5 hyp h0
 go_enter Tryz.func34, Tryz.ntmps34
 go_wp2_with fail
 have hF := TwoR.mk' w (.bool x.neg) (.slice an x.num.length cn) (.slice ad x.den.length cd) (.bool y.neg) (.slice bn y.num.length dn) (.slice bd y.den.length dd) 37
 generalize ((w.alloc (ratO x an cn ad cd 37)).alloc (ratO y bn dn bd dd 37)).alloc (zerO 37) = W0 at *
 have HS0 := hid (r3Sign (HVy.out.below hF.bl) (by show y.num.length <= _; omega))
 have HF0 := hid hF
 clear hF
 refine HS0.out.mono ?_
 rintro e W ⟨rfl, hbW⟩
 have HF := hid (HF0.out.below hbW)
 have HA4 := hid (A4.out.below HF.out.bl)
 have HA5 := hid (A5.out.below HF.out.bl)
 have HB4 := hid (B4.out.below HF.out.bl)
 have HB5 := hid (B5.out.below HF.out.bl)
 generalize signQ (ratOf y) = sq at *
 clear A4 A5 B4 B5 HS0 HF0 hbW HVy
 go_upto_region 3 with fail
 have xbl : Below W.heap.size W W.drew := (Below.refl _ _).drew
 have tok1 : True := trivial
 have tok2 : True := trivial
 clear hs0
 go_region_held3 (fun w' => w'.cell? ⟨w.heap.size, 0, none⟩ = some (.bool x.neg) /\ w'.cell? ⟨w.heap.size, 1, none⟩ = some (.slice an x.num.length cn) /\ w'.cell? ⟨w.heap.size, 2, none⟩ = some (.slice ad x.den.length cd) /\
   w'.cell? ⟨w.heap.size + 1, 0, none⟩ = some (.bool y.neg) /\ w'.cell? ⟨w.heap.size + 1, 1, none⟩ = some (.slice bn y.num.length dn) /\ w'.cell? ⟨w.heap.size + 1, 2, none⟩ = some (.slice bd y.den.length dd))
  (first | exact S33_keep HF.out.a HF.out.b HF.out.a.lt HF.out.b.lt ‹Below W.heap.size W _› | exact S33_keep (B := w.heap.size + 1 + 1) HF.out.a HF.out.b (Nat.lt_succ_of_lt (Nat.lt_succ_self _)) (Nat.lt_succ_self _) (below_store3 (hS5.mono (Nat.le_of_lt HF.out.c.lt)) (Nat.le_refl _) _ _ _))
  (first
   | (go_at_call 44; have _t := tok1; clear tok1; have hS := ‹Below W.heap.size W _›; refine (r3one dd b3 (HB5.out.below hS) (by omega)).mono ?_; rintro e w1 ⟨a1, c1, l1, rfl, p1, p2, p3, p4, p5⟩
      have hS1 := hS.trans (p5.mono hS.size); have P2 := hid p2; have P3 := hid p3; clear p2 p3)
   | (go_at_call 43; have _t := tok2; clear tok2; have hS := ‹Below W.heap.size W _›; refine (r1Mul cn c1 (HA4.out.below hS) P2.out rfl P3.out (by omega)).mono ?_; rintro e w2 ⟨a2', c2, rfl, g1, g2, g3, _⟩
      have hS2 := hS.trans (g3.mono hS.size); have G2 := hid g2; clear g2
      have hml : (limbs (lval x.num * underN y.den)).length <= 2097152 := Nat.le_trans (mul_len rfl P3.out hx1 p4 HA4.out.lim P2.out.lim) (by omega))
   | (go_at_call 44; have hS := ‹Below W.heap.size W _›; refine (r3one cd a3 (HA5.out.below hS) (by omega)).mono ?_; rintro e w3 ⟨a3', c3, l3, rfl, q1, q2, q3, q4, q5⟩
      have hS3 := hS.trans (q5.mono hS.size); have G2b := hid (G2.out.below q5); have Q2 := hid q2; have Q3 := hid q3; clear q2 q3)
   | (go_at_call 43; have hS := ‹Below W.heap.size W _›; refine (r1Mul c3 dn Q2.out (HB4.out.below hS) Q3.out rfl (by omega)).mono ?_; rintro e w4 ⟨a4, c4, rfl, t1, t2, t3, _⟩
      have hS4 := hS.trans (t3.mono hS.size); have G2d := hid (G2b.out.below t3); have T2 := hid t2; clear t2
      have hdl : (limbs (underN x.den * lval y.num)).length <= 2097152 := Nat.le_trans (mul_len Q3.out rfl q4 hy1 Q2.out.lim HB4.out.lim) (by omega))
   | (go_at_call 46; have hS := ‹Below W.heap.size W _›; refine (r3quot (x.neg != y.neg) c2 c4 g1 t1 G2d.out T2.out (lval_limbs _) (lval_limbs _) hml hdl HDp.out).mono ?_
      rintro e w5 ⟨v5, rfl, ⟨bn', bd', m1, m2, rfl, k3, k4, k5, k6⟩, k2⟩
      have hS5 := hS.trans (k2.mono hS.size)
      obtain ⟨r0, r1, r2, rf, rlt⟩ := HF.out.c.below hS5
      have hN5 := hid (HF.out.nc.below hS5 HF.out.c.lt)
      have K5 := hid k5
      have K6 := hid k6
      have hB5 := hid (HF.out.bl.trans (hS5.mono (by have := HF.out.a.lt; omega)))))
 generalize quotN (x.neg != y.neg) (lval x.num * underN y.den) (underN x.den * lval y.num) = R at *
 go_wp2
 exact bodyPost_ret (v := .tuple #[.agg #[.bool R.neg, .slice bn' R.num.length m1, .slice bd' R.den.length m2], .int .i64 0]) (by simp [results, Tryz.results34, go_sem, r0, r1, r2]) rfl ⟨_, rfl, by rw [hQ.out]; exact RatV.store hN5.out k3 k4 K5.out K6.out, below_store3 hB5.out (by omega) _ _ _⟩
theorem ratL_int (z : Int) : ratL (z : Rat) = ⟨decide (z < 0), limbs z.natAbs, []⟩ := by
 unfold ratL
 rw [Rat.num_intCast, Rat.den_intCast]
 rfl
theorem r3Of (w : World) (x : Int) (h1 : -9223372036854775808 <= x) (h2 : x <= 9223372036854775807) :
  Calls Tryz.prog 35 #[.int .i64 x] w (RetR w (ratL (x : Rat))) := by
 have hR := Box3.alloc w (.bool false) (.slice none 0 0) (.slice none 0 0) 37
 have hN := NoInt.alloc w #[.bool false, .slice none 0 0, .slice none 0 0] 37 (by simp)
 have hB0 : Below w.heap.size w (w.alloc (zerO 37)) := (Below.refl _ _).alloc (Nat.le_refl _) _
 have HO := hid (fun wv => r2Of wv x h1 h2)
 have HR := hid hR
 have HN := hid hN
 have HB := hid hB0
 have HQ := hid (ratL_int x)
 clear hR hN hB0
 go_enter Tryz.func35, Tryz.ntmps35
 go_wp2_with fail
 refine (HO.out _).mono ?_
 rintro e w1 ⟨v1, rfl, ⟨a1, c1, rfl, g1, g2⟩, hb⟩
 generalize hzb : decide (x < 0) = zb at *
 generalize hzn : limbs x.natAbs = zn at *
 have hal : Below w1.heap.size w1 (w1.alloc (.cells #[.bool zb, .slice a1 zn.length c1] 76)) := (Below.refl _ _).alloc (Nat.le_refl _) _
 obtain ⟨r0, r1, r2, rf, rlt⟩ := (HR.out.below hb).below hal
 have hN2 := hid ((HN.out.below hb HR.out.lt).below hal (HR.out.below hb).lt)
 have HB2 := hid (HB.out.trans ((hb.trans (hal.mono hb.size)).mono HB.out.size))
 have G2 := hid (g2.below hal)
 clear HO hb hal g2 HR HN HB hzb hzn
 go_wp2
 exact bodyPost_ret (v := .agg #[.bool zb, .slice a1 zn.length c1, .slice none 0 0]) (by simp [results, Tryz.results35, go_sem, r0, r1, r2]) rfl ⟨_, rfl, by rw [HQ.out]; exact RatV.store (x := ⟨zb, zn, []⟩) (bd := none) (m2 := 0) hN2.out g1 (Nat.le_refl _) G2.out (U32s.nil _ _), below_store3 HB2.out (Nat.le_refl _) _ _ _⟩
structure TwoB (w W : World) (g : Nat) (p q r s t u : Value) : Prop where
 a : Box3 W g p q r
 b : Box3 W (g + 1) s t u
 bl : Below g w W
theorem TwoB.mk' (w : World) (p q r s t u : Value) (T : Nat) : TwoB w ((w.alloc (.cells #[p, q, r] T)).alloc (.cells #[s, t, u] T)) w.heap.size p q r s t u := by
 have step : ∀ (W : World) (o : Obj), Below W.heap.size W (W.alloc o) := fun W o => (Below.refl _ _).alloc (Nat.le_refl _) _
 have s1 := step w (.cells #[p, q, r] T)
 have s3 := step (w.alloc (.cells #[p, q, r] T)) (.cells #[s, t, u] T)
 have b1 := Box3.alloc w p q r T
 have b3 := Box3.alloc (w.alloc (.cells #[p, q, r] T)) s t u T
 have b1' := b1.below s3
 have bl := s1.trans (s3.mono (by simp))
 simp only [World.size_alloc] at b3
 exact ⟨b1', b3, bl⟩
theorem ratL_ext (x y : RatL) : decide (x = y) = (decide (x.neg = y.neg) && (decide (x.num = y.num) && decide (x.den = y.den))) := by
 rw [Bool.eq_iff_iff]
 simp only [decide_eq_true_eq, Bool.and_eq_true]
 obtain ⟨a, b, c⟩ := x
 obtain ⟨d, e, f⟩ := y
 simp
theorem r3Same {w : World} {v u : Value} {x y : RatL} (hv : RatV w v x) (hu : RatV w u y) :
  Calls Tryz.prog 24 #[v, u] w fun e w' => e = .returned (.bool (decide (x = y))) /\ Below w.heap.size w w' := by
 obtain ⟨an, ad, cn, cd, rfl, a2, a3, a4, a5⟩ := hv.ex
 obtain ⟨bn, bd, dn, dd, rfl, b2, b3, b4, b5⟩ := hu.ex
 have HR := hid (ratL_ext x y)
 generalize decide (x = y) = R at *
 have hl1 := a4.len
 have hl2 := a5.len
 have hl3 := b4.len
 have hl4 := b5.len
 have A4 := hid a4
 have A5 := hid a5
 have B4 := hid b4
 have B5 := hid b5
 clear hv hu a4 a5 b4 b5
 go_enter Tryz.func24, Tryz.ntmps24
 go_upto_region 1 with fail
 have hF := TwoB.mk' w (.bool x.neg) (.slice an x.num.length cn) (.slice ad x.den.length cd) (.bool y.neg) (.slice bn y.num.length dn) (.slice bd y.den.length dd) 37
 generalize (w.alloc (ratO x an cn ad cd 37)).alloc (ratO y bn dn bd dd 37) = W at *
 have HBl := hid hF.bl
 have HM1 := hid (r1Same cn dn (A4.out.below hF.bl) (B4.out.below hF.bl))
 have HM2 := hid (fun n => r1Same cd dd ((A5.out.below hF.bl).drewN n) ((B5.out.below hF.bl).drewN n))
 have HBn := hid (fun (wv : World) n => Below.drewN_refl wv n)
 obtain ⟨x0, x1, x2, _, xlt⟩ := hF.a
 obtain ⟨y0, y1, y2, _, ylt⟩ := hF.b
 have hbs := hF.bl.size
 clear hF A4 A5 B4 B5
 by_cases e1 : x.neg = y.neg
 ·have te1 : (x.neg == y.neg) = true := by rw [beq_iff_eq]; exact e1
  rw [decide_eq_true e1, Bool.true_and] at HR
  clear e1
  by_cases e2 : x.num = y.num
  ·rw [decide_eq_true e2] at HR HM1
   clear e2
   rw [Bool.true_and] at HR
   generalize decide (x.den = y.den) = D at *
   go_wp2_with fail
   refine HM1.out.mono ?_
   rintro e w2 ⟨rfl, n1, rfl⟩
   go_wp2_with fail
   refine (HM2.out n1).mono ?_
   rintro e w3 ⟨rfl, n2, rfl⟩
   go_wp2
   go_ret
   exact ⟨ret_bool HR.out.symm, HBl.out.trans ((HBn.out _ (n1 + n2)).mono HBl.out.size)⟩
  ·rw [decide_eq_false e2] at HR HM1
   clear e2
   rw [Bool.false_and] at HR
   go_wp2_with fail
   refine HM1.out.mono ?_
   rintro e w2 ⟨rfl, n1, rfl⟩
   go_wp2
   go_ret
   exact ⟨ret_bool HR.out.symm, HBl.out.trans ((HBn.out _ _).mono HBl.out.size)⟩
 ·have te1 : (x.neg == y.neg) = false := by rw [beq_eq_false_iff_ne]; exact e1
  rw [decide_eq_false e1, Bool.false_and] at HR
  clear e1
  go_wp2
  go_ret
  exact ⟨ret_bool HR.out.symm, HBl.out⟩
theorem r3Valid {w : World} {v : Value} {x : RatL} (hv : RatV w v x) (hx : RatLe x 1048576) :
  Calls Tryz.prog 52 #[v] w fun e w' => e = .returned (.bool (validR x)) /\ Below w.heap.size w w' := by
 have HV := hid hv
 have HX := hid hx
 obtain ⟨an, ad, cn, cd, rfl, a2, a3, a4, a5⟩ := hv.ex
 have HR : Hid (validR x = decide (x = canonL x)) := rfl
 generalize validR x = R at *
 have hl1 := a4.len
 have hl2 := a5.len
 clear hv hx a4 a5
 go_enter Tryz.func52, Tryz.ntmps52
 go_upto_region 1 with fail
 have hX := Box3.alloc w (.bool x.neg) (.slice an x.num.length cn) (.slice ad x.den.length cd) 37
 have hb : Below w.heap.size w (w.alloc (ratO x an cn ad cd 37)) := (Below.refl _ _).alloc (Nat.le_refl _) _
 generalize w.alloc (ratO x an cn ad cd 37) = W at *
 have HB := hid hb
 have HV2 := hid (HV.out.below hb)
 have HX3 := hid hX
 obtain ⟨x0, x1, x2, xf, xlt⟩ := hX
 have xbl : Below W.heap.size W W.drew := (Below.refl _ _).drew
 clear hb xf HV
 go_region_held3 (fun w' => w'.cell? ⟨w.heap.size, 0, none⟩ = some (.bool x.neg) /\ w'.cell? ⟨w.heap.size, 1, none⟩ = some (.slice an x.num.length cn) /\ w'.cell? ⟨w.heap.size, 2, none⟩ = some (.slice ad x.den.length cd))
  (first | exact S3_keep x0 x1 x2 xlt ‹Below W.heap.size W _› | go_keep)
  (first
   | (go_at_call 58; have hS := ‹Below W.heap.size W _›; refine (r3Canon (HV2.out.below hS) HX.out).mono ?_; rintro e w1 ⟨v1, rfl, g1, g2⟩
      have hS1 := hS.trans (g2.mono hS.size); have G1 := hid g1; clear g1)
   | (go_at_call 24; have hS := ‹Below W.heap.size W _›; refine (r3Same (HV2.out.below hS) G1.out).mono ?_
      rintro e w2 ⟨rfl, g3⟩
      have hS2 := hS.trans (g3.mono hS.size)
      have hB2 := hid (HB.out.trans (hS2.mono HB.out.size))))
 go_wp2
 go_ret
 exact ⟨ret_bool HR.out.symm, hB2.out⟩
theorem allV_take {L : List RatL} {j : Nat} {x : RatL} (hx : L[j]? = some x) : (L.take (j + 1)).all validR = ((L.take j).all validR && validR x) := by
 rw [take_succ_at hx, List.all_append]; simp
theorem allV_false {L : List RatL} {x : RatL} (hx : x ∈ L) (h : validR x = false) : L.all validR = false := by
 rw [List.all_eq_false]; exact ⟨x, hx, by simp [h]⟩
end Go.Proofs.YtoppijdedkdjeaaGreat

/-
  Contracts of the functions that the statement reaches: RefJ, RefK, RefL, RefM, RefN, RefO, RefP.
-/
import Derived.Test.YtoppijdedkdjeaaGreatF17
import Derived.Test.YtoppijdedkdjeaaGreatF18
set_option linter.unusedVariables false
set_option linter.unusedSimpArgs false
set_option linter.constructorNameAsVariable false
set_option linter.deprecated false
set_option maxRecDepth 100000
set_option maxHeartbeats 3200000
namespace Go.Proofs.YtoppijdedkdjeaaGreat
open Go.RowKit
open Go.Lib (hid)
structure IntC (w : World) (v : Value) (z : Int) : Prop where
 ex : ∃ (a : Option Addr) (c : Nat), v = .agg #[.bool (decide (z < 0)), .slice a (limbs z.natAbs).length c] /\ (limbs z.natAbs).length <= c /\ U32s w a (limbs z.natAbs)
def RetZ (w : World) (z : Int) (e : Ending) (w' : World) : Prop := ∃ v, e = .returned v /\ IntC w' v z /\ Below w.heap.size w w'
theorem sgn_neg_iff (neg : Bool) (n : Nat) : decide (sgn neg n < 0) = (neg && decide (n ≠ 0)) := by
 cases neg
 ·simp [sgn]
 ·by_cases h : n = 0
  ·simp [sgn, h]
  ·simp [sgn, h]; omega
theorem IntC.mk' {w : World} {a : Option Addr} {c n : Nat} {neg : Bool} (h1 : (limbs n).length <= c) (h2 : U32s w a (limbs n)) : IntC w (.agg #[.bool (neg && decide (n ≠ 0)), .slice a (limbs n).length c]) (sgn neg n) :=
 ⟨a, c, by rw [sgn_neg_iff, sgn_natAbs], by rw [sgn_natAbs]; exact h1, by rw [sgn_natAbs]; exact h2⟩
theorem r2Make {w : World} {a : Option Addr} {l : List Nat} (neg : Bool) {n : Nat} (c : Nat) (hc : l.length <= c) (h : U32s w a l) (hx : lval l = n) (hr : l.length <= 17592186044416) :
  Calls Tryz.prog 84 #[.bool neg, .slice a l.length c] w (RetZ w (sgn neg n)) := by
 have hB0 : Below w.heap.size w (w.alloc (.cells #[.bool false, .slice none 0 0] 76)) := (Below.refl _ _).alloc (Nat.le_refl _) _
 have hM := r1Make c hc (h.below hB0) (by omega)
 rw [hx] at hM
 have HM := hid hM
 have hR := Box2.alloc w (.bool false) (.slice none 0 0) 76
 have hN := NoInt.alloc w #[.bool false, .slice none 0 0] 76 (by simp)
 have HB := hid hB0
 have HR := hid hR
 have HN := hid hN
 clear h hx hB0 hR hN hM
 go_enter Tryz.func84, Tryz.ntmps84
 go_wp2_with fail
 refine HM.out.mono ?_
 rintro e w1 ⟨a1, c1, rfl, h1, h2, hb, _⟩
 obtain ⟨r0, r1, rf, rlt⟩ := HR.out.below hb
 have HN1 := hid (HN.out.below hb (by simp))
 have HB1 := hid (HB.out.trans (hb.mono HB.out.size))
 have H2 := hid h2
 clear HM HR HN HB h2 hb
 by_cases hn : n = 0
 ·subst hn
  have hll : (limbs 0).length = 0 := by rw [limbs_zero]; rfl
  have hs : sgn neg 0 = 0 := by cases neg <;> rfl
  rw [hs]
  rw [limbs_zero] at *
  clear hs hll
  have HC : Hid (∀ w', IntC w' (.agg #[.bool false, .slice a1 0 c1]) 0) := fun w' => ⟨a1, c1, by simp [limbs_zero], by simp [limbs_zero], by simp [limbs_zero]; exact U32s.nil _ _⟩
  cases neg <;>
  ·go_wp2
   have hbf := (HB1.out.setCell (p := ⟨w.heap.size, 0, none⟩) (Nat.le_refl _) (.bool false)).setCell (p := ⟨w.heap.size, 1, none⟩) (Nat.le_refl _) (.slice a1 0 c1)
   exact bodyPost_ret (v := .agg #[.bool false, .slice a1 0 c1]) (by simp [results, Tryz.results84, go_sem, r0, r1]) rfl ⟨_, rfl, HC.out _, hbf⟩
 ·have hp := limbs_pos_iff.2 (Nat.pos_of_ne_zero hn)
  have HDn := hid (decide_eq_true hn)
  have hd : decide (0 < (limbs n).length) = true := decide_eq_true hp
  have HC : Hid (∀ w' : World, U32s w' a1 (limbs n) -> IntC w' (.agg #[.bool neg, .slice a1 (limbs n).length c1]) (sgn neg n)) := fun w' h => by
   have := IntC.mk' (neg := neg) h1 h
   rwa [HDn.out, Bool.and_true] at this
  clear hn
  cases neg <;>
  ·go_wp2
   have hU : ∀ B : Bool, U32s ((w1.setCell ⟨w.heap.size, 0, none⟩ (.bool B)).setCell ⟨w.heap.size, 1, none⟩ (.slice a1 (limbs n).length c1)) a1 (limbs n) := fun B => (H2.out.setCell HN1.out _ _).setCell (HN1.out.setCell _ _ (by simp)) _ _
   have hbf := fun B : Bool => (HB1.out.setCell (p := ⟨w.heap.size, 0, none⟩) (Nat.le_refl _) (.bool B)).setCell (p := ⟨w.heap.size, 1, none⟩) (Nat.le_refl _) (.slice a1 (limbs n).length c1)
   first
    | exact bodyPost_ret (v := .agg #[.bool false, .slice a1 (limbs n).length c1]) (by simp [results, Tryz.results84, go_sem, r0, r1]) rfl ⟨_, rfl, HC.out _ (hU _), hbf _⟩
    | exact bodyPost_ret (v := .agg #[.bool true, .slice a1 (limbs n).length c1]) (by simp [results, Tryz.results84, go_sem, r0, r1]) rfl ⟨_, rfl, HC.out _ (hU _), hbf _⟩
theorem neg_u64 {x : Int} (h1 : -9223372036854775808 <= x) (h2 : x < 0) : IntKind.u64.wrap (-IntKind.u64.wrap x) = ((x.natAbs : Nat) : Int) := by
 rw [IntKind.wrap_u64, IntKind.wrap_u64]; omega
theorem limbs_len64 {n : Nat} (h : n < 18446744073709551616) : (limbs n).length <= 2 := limbs_len_le (Nat.lt_of_lt_of_le h (by decide))
theorem r2Of (w : World) (x : Int) (h1 : -9223372036854775808 <= x) (h2 : x <= 9223372036854775807) :
  Calls Tryz.prog 49 #[.int .i64 x] w (RetZ w x) := by
 have hR := Box2.alloc w (.bool false) (.slice none 0 0) 76
 have hN := NoInt.alloc w #[.bool false, .slice none 0 0] 76 (by simp)
 have HR := hid hR
 have HN := hid hN
 clear hR hN
 by_cases hx : x < 0
 ·have hO := fun wv => r1Of x.natAbs (by omega) wv
  rw [<- neg_u64 h1 hx] at hO
  have HO := hid hO
  have HX : Hid (sgn true x.natAbs = x) := by unfold Hid sgn; simp; omega
  have hlen := limbs_len64 (n := x.natAbs) (by omega)
  clear hO
  go_enter Tryz.func49, Tryz.ntmps49
  go_wp2_with fail
  refine (HO.out _).mono ?_
  rintro e w1 ⟨a1, c1, rfl, g1, g2, g3, _⟩
  have hM := r2Make true c1 g1 g2 (lval_limbs _) (by omega)
  rw [HX.out] at hM
  have HM := hid hM
  have HB := hid (((Below.refl _ w).alloc (Nat.le_refl _) (.cells #[.bool false, .slice none 0 0] 76)).trans (g3.mono (by simp)))
  have HR1 := hid (HR.out.below g3)
  have HN1 := hid (HN.out.below g3 (by simp))
  clear HO hM g2 g3 HR HN
  go_wp2_with fail
  refine HM.out.mono ?_
  rintro e w2 ⟨v2, rfl, ⟨a2, c2, rfl, k1, k2⟩, hb2⟩
  obtain ⟨r0, r1, rf, rlt⟩ := HR1.out.below hb2
  have HN2 := hid (HN1.out.below hb2 HR1.out.lt)
  have HB2 := hid (HB.out.trans (hb2.mono HB.out.size))
  have K2 := hid k2
  clear HM k2 hb2 HR1 HN1 HB
  generalize hB : decide (x < 0) = B at *
  have HBB := hid hB
  generalize hL : limbs x.natAbs = L at *
  have HLL := hid hL
  clear hB hL HX
  go_wp2
  have hU : U32s ((w2.setCell ⟨w.heap.size, 0, none⟩ (.bool B)).setCell ⟨w.heap.size, 1, none⟩ (.slice a2 L.length c2)) a2 L := (K2.out.setCell HN2.out _ _).setCell (HN2.out.setCell _ _ (by simp)) _ _
  have hbf := (HB2.out.setCell (p := ⟨w.heap.size, 0, none⟩) (Nat.le_refl _) (.bool B)).setCell (p := ⟨w.heap.size, 1, none⟩) (Nat.le_refl _) (.slice a2 L.length c2)
  exact bodyPost_ret (v := .agg #[.bool B, .slice a2 L.length c2]) (by simp [results, Tryz.results49, go_sem, r0, r1]) rfl ⟨_, rfl, ⟨a2, c2, by rw [HBB.out, HLL.out], by rw [HLL.out]; exact k1, by rw [HLL.out]; exact hU⟩, hbf⟩
 ·obtain ⟨n, rfl⟩ : ∃ n : Nat, x = (n : Int) := ⟨x.toNat, by omega⟩
  have HO := hid (fun wv => r1Of n (by omega) wv)
  have HX : Hid (sgn false n = (n : Int)) := rfl
  have hlen := limbs_len64 (n := n) (by omega)
  go_enter Tryz.func49, Tryz.ntmps49
  go_wp2_with fail
  refine (HO.out _).mono ?_
  rintro e w1 ⟨a1, c1, rfl, g1, g2, g3, _⟩
  have hM := r2Make false c1 g1 g2 (lval_limbs _) (by omega)
  rw [HX.out] at hM
  have HM := hid hM
  have HB := hid (((Below.refl _ w).alloc (Nat.le_refl _) (.cells #[.bool false, .slice none 0 0] 76)).trans (g3.mono (by simp)))
  have HR1 := hid (HR.out.below g3)
  have HN1 := hid (HN.out.below g3 (by simp))
  clear HO hM g2 g3 HR HN
  go_wp2_with fail
  refine HM.out.mono ?_
  rintro e w2 ⟨v2, rfl, ⟨a2, c2, rfl, k1, k2⟩, hb2⟩
  obtain ⟨r0, r1, rf, rlt⟩ := HR1.out.below hb2
  have HN2 := hid (HN1.out.below hb2 HR1.out.lt)
  have HB2 := hid (HB.out.trans (hb2.mono HB.out.size))
  have K2 := hid k2
  clear HM k2 hb2 HR1 HN1 HB
  generalize hB : decide ((n : Int) < 0) = B at *
  have HBB := hid hB
  generalize hL : limbs (n : Int).natAbs = L at *
  have HLL := hid hL
  clear hB hL HX
  go_wp2
  have hU : U32s ((w2.setCell ⟨w.heap.size, 0, none⟩ (.bool B)).setCell ⟨w.heap.size, 1, none⟩ (.slice a2 L.length c2)) a2 L := (K2.out.setCell HN2.out _ _).setCell (HN2.out.setCell _ _ (by simp)) _ _
  have hbf := (HB2.out.setCell (p := ⟨w.heap.size, 0, none⟩) (Nat.le_refl _) (.bool B)).setCell (p := ⟨w.heap.size, 1, none⟩) (Nat.le_refl _) (.slice a2 L.length c2)
  exact bodyPost_ret (v := .agg #[.bool B, .slice a2 L.length c2]) (by simp [results, Tryz.results49, go_sem, r0, r1]) rfl ⟨_, rfl, ⟨a2, c2, by rw [HBB.out, HLL.out], by rw [HLL.out]; exact k1, by rw [HLL.out]; exact hU⟩, hbf⟩
theorem r3one {w : World} {a : Option Addr} {l : List Nat} (c : Nat) (hc : l.length <= c) (h : U32s w a l) (hr : l.length <= 17592186044416) : Calls Tryz.prog 44 #[.slice a l.length c] w (RetU w (underN l) (l.length + 1)) := by
 have hM := hid (r1Make c hc h (by omega))
 have hle := limbs_len_of_lval h.lim
 have hl := h.len
 clear h
 go_enter Tryz.func44, Tryz.ntmps44
 go_wp2_with fail
 refine hM.out.mono ?_
 rintro e w1 ⟨a1, c1, rfl, h1, h2, h3, _⟩
 have H2 := hid h2
 have H3 := hid h3
 clear hM h2 h3
 by_cases hn : lval l = 0
 ·have HU : Hid (underN l = 1) := if_pos hn
  rw [hn, limbs_zero] at *
  clear hn
  go_wp2
  go_ret
  exact ⟨_, 1, [1], rfl, Nat.le_refl _, U32s.one w1 (b := 1) (by omega) _, by rw [HU.out]; rfl, by simp, H3.out.alloc H3.out.size _⟩
 ·have HU : Hid (underN l = lval l) := if_neg hn
  have hp := limbs_pos_iff.2 (Nat.pos_of_ne_zero hn)
  have hz : (((limbs (lval l)).length : Int) == 0) = false := by rw [beq_eq_false_iff_ne]; omega
  clear hn
  go_wp2
  go_ret
  exact ⟨a1, c1, limbs (lval l), rfl, h1, H2.out, by rw [HU.out, lval_limbs], by omega, H3.out⟩
theorem RatV.store {w : World} {g : Nat} {x : RatL} {bn bd : Option Addr} {m1 m2 : Nat} (hN : NoInt w g) (h1 : x.num.length <= m1) (h2 : x.den.length <= m2) (k5 : U32s w bn x.num) (k6 : U32s w bd x.den) :
  RatV (((w.setCell ⟨g, 0, none⟩ (.bool x.neg)).setCell ⟨g, 1, none⟩ (.slice bn x.num.length m1)).setCell ⟨g, 2, none⟩ (.slice bd x.den.length m2)) (.agg #[.bool x.neg, .slice bn x.num.length m1, .slice bd x.den.length m2]) x := by
 refine ⟨bn, bd, m1, m2, rfl, h1, h2, ?_, ?_⟩
 ·exact ((k5.setCell hN _ _).setCell (hN.setCell _ _ (by simp)) _ _).setCell ((hN.setCell _ _ (by simp)).setCell _ _ (by simp)) _ _
 ·exact ((k6.setCell hN _ _).setCell (hN.setCell _ _ (by simp)) _ _).setCell ((hN.setCell _ _ (by simp)).setCell _ _ (by simp)) _ _
theorem below_store3 {n g : Nat} {w w' : World} (h : Below n w w') (hg : n <= g) (p q r : Value) : Below n w (((w'.setCell ⟨g, 0, none⟩ p).setCell ⟨g, 1, none⟩ q).setCell ⟨g, 2, none⟩ r) :=
 ((h.setCell (p := ⟨g, 0, none⟩) hg p).setCell (p := ⟨g, 1, none⟩) hg q).setCell (p := ⟨g, 2, none⟩) hg r
theorem limbs_one : limbs 1 = [1] := by rw [limbs_pos (by omega), limbs_zero]
theorem r3quot {w : World} {a b : Option Addr} {l m : List Nat} (neg : Bool) (c e : Nat) (hc : l.length <= c) (he : m.length <= e) (h : U32s w a l) (g : U32s w b m) {n d : Nat} (hx : lval l = n) (hy : lval m = d) (hr : l.length <= 2097152) (hr2 : m.length <= 2097152) (hd : 0 < d) :
  Calls Tryz.prog 46 #[.bool neg, .slice a l.length c, .slice b m.length e] w (RetR w (quotN neg n d)) := by
 have hR := Box3.alloc w (.bool false) (.slice none 0 0) (.slice none 0 0) 37
 have hN := NoInt.alloc w #[.bool false, .slice none 0 0, .slice none 0 0] 37 (by simp)
 have hB0 : Below w.heap.size w (w.alloc (zerO 37)) := (Below.refl _ _).alloc (Nat.le_refl _) _
 have HG := hid (r1Gcd c e hc he (h.below hB0) (g.below hB0) hx hy hr hr2)
 have hgp : 0 < Nat.gcd n d := Nat.gcd_pos_of_pos_right n hd
 have hgl : (limbs (Nat.gcd n d)).length <= m.length := by
  refine Nat.le_trans (limbs_len_mono (Nat.gcd_le_right n hd)) ?_
  rw [<- hy]; exact limbs_len_of_lval g.lim
 have hD1 := fun wv (hu : U32s wv a l) a1 c1 hc1 (hg : U32s wv a1 (limbs (Nat.gcd n d))) => r1DivMod c c1 hc hc1 hu hg hx (lval_limbs _) hr (by omega) hgp
 have hD2 := fun wv (hu : U32s wv b m) a1 c1 hc1 (hg : U32s wv a1 (limbs (Nat.gcd n d))) => r1DivMod e c1 he hc1 hu hg hy (lval_limbs _) hr2 (by omega) hgp
 have HD1 := hid hD1
 have HD2 := hid hD2
 have HR := hid hR
 have HN := hid hN
 have HB0 := hid hB0
 have HH := hid (h.below hB0)
 have HGG := hid (g.below hB0)
 have HQ : Hid (quotN neg n d = ⟨neg && decide (0 < (limbs (n / Nat.gcd n d)).length), limbs (n / Nat.gcd n d), if d / Nat.gcd n d = 1 then [] else limbs (d / Nat.gcd n d)⟩) := by
  unfold Hid quotN
  congr 2
  rw [decide_eq_decide, limbs_pos_iff]
  obtain ⟨k, hk⟩ := Nat.gcd_dvd_left n d
  generalize Nat.gcd n d = G at *
  subst hk
  rw [Nat.mul_div_cancel_left _ hgp]
  constructor
  ·intro h; exact Nat.pos_of_ne_zero (fun e => h (by rw [e, Nat.mul_zero]))
  ·intro h e
   rcases Nat.mul_eq_zero.1 e with h1 | h1 <;> omega
 have hdp : 0 < d / Nat.gcd n d := Nat.div_pos (Nat.gcd_le_right n hd) hgp
 clear h g hx hy hR hN hB0 hD1 hD2 hd
 generalize Nat.gcd n d = G at *
 go_enter Tryz.func46, Tryz.ntmps46
 go_wp2_with fail
 refine HG.out.mono ?_
 rintro ee w1 ⟨a1, c1, rfl, h1, h2, hb1⟩
 have D1 := hid (HD1.out w1 (HH.out.below hb1) a1 c1 h1 h2)
 have HG1 := hid (HGG.out.below hb1)
 have H2 := hid h2
 have HR1 := hid (HR.out.below hb1)
 have HN1 := hid (HN.out.below hb1 HR.out.lt)
 have HB1 := hid (HB0.out.trans (hb1.mono HB0.out.size))
 clear HG HH HGG h2 HR HN HB0 hb1 HD1
 go_wp2_with fail
 refine D1.out.mono ?_
 rintro ee w2 ⟨a2, c2, a2', c2', rfl, k1, k2, k3, k4, hb2⟩
 have D2 := hid (HD2.out w2 (HG1.out.below hb2) a1 c1 h1 (H2.out.below hb2))
 have K3 := hid k3
 have HR2 := hid (HR1.out.below hb2)
 have HN2 := hid (HN1.out.below hb2 HR1.out.lt)
 have HB2 := hid (HB1.out.trans (hb2.mono HB1.out.size))
 clear D1 HG1 H2 HR1 HN1 HB1 k3 k4 hb2 HD2
 go_wp2_with fail
 refine D2.out.mono ?_
 rintro ee w3 ⟨a3, c3, a3', c3', rfl, j1, j2, j3, j4, hb3⟩
 have K3' := hid (K3.out.below hb3)
 have J3 := hid j3
 obtain ⟨r0, r1, r2, rf, rlt⟩ := HR2.out.below hb3
 have HN3 := hid (HN2.out.below hb3 HR2.out.lt)
 have HB3 := hid (HB2.out.trans (hb3.mono HB2.out.size))
 have hj := hid j3
 clear D2 K3 HR2 HN2 HB2 j4 hb3
 generalize limbs (n / G) = L at *
 have hneg : ∀ B : Bool, B = (neg && decide (0 < L.length)) -> True := fun _ _ => trivial
 clear hneg
 by_cases h1 : d / G = 1
 ·have HQ1 := hid (HQ.out)
  rw [if_pos h1] at HQ1
  have hl1 : (limbs (d / G)).length = 1 := by rw [h1, limbs_one]; rfl
  obtain ⟨p1, o1, rfl, hp1, q1⟩ := j3.pick (show 0 < (limbs (d / G)).length by omega)
  have hdg : dig (limbs (d / G)) 0 = 1 := by rw [h1, limbs_one]; rfl
  rw [hdg, Nat.add_zero] at q1
  have hbe : ∀ B : Bool, Below w.heap.size w (((w3.setCell ⟨w.heap.size, 0, none⟩ (.bool B)).setCell ⟨w.heap.size, 1, none⟩ (.slice a2 L.length c2)).setCell ⟨w.heap.size, 2, none⟩ (.slice none 0 0)) := fun B => below_store3 HB3.out (Nat.le_refl _) _ _ _
  have hst := fun B : Bool => RatV.store (x := ⟨B, L, []⟩) (bd := none) (m2 := 0) HN3.out k1 (Nat.le_refl _) K3'.out (U32s.nil _ _)
  have HBE := hid hbe
  have HST := hid hst
  rw [hl1] at j1 ⊢
  clear hl1 hdg h1 j3 hbe hst
  cases hL : decide (0 < L.length)
  ·cases neg <;>
   ·go_wp2
    exact bodyPost_ret (v := .agg #[.bool false, .slice a2 L.length c2, .slice none 0 0]) (by simp [results, Tryz.results46, go_sem, r0, r1, r2]) rfl ⟨_, rfl, by rw [HQ1.out, hL]; exact HST.out false, HBE.out false⟩
  ·cases neg
   ·go_wp2
    exact bodyPost_ret (v := .agg #[.bool false, .slice a2 L.length c2, .slice none 0 0]) (by simp [results, Tryz.results46, go_sem, r0, r1, r2]) rfl ⟨_, rfl, by rw [HQ1.out, hL]; exact HST.out false, HBE.out false⟩
   ·go_wp2
    exact bodyPost_ret (v := .agg #[.bool true, .slice a2 L.length c2, .slice none 0 0]) (by simp [results, Tryz.results46, go_sem, r0, r1, r2]) rfl ⟨_, rfl, by rw [HQ1.out, hL]; exact HST.out true, HBE.out true⟩
 ·have HQ1 := hid (HQ.out)
  rw [if_neg h1] at HQ1
  have hbe : ∀ B : Bool, Below w.heap.size w (((w3.setCell ⟨w.heap.size, 0, none⟩ (.bool B)).setCell ⟨w.heap.size, 1, none⟩ (.slice a2 L.length c2)).setCell ⟨w.heap.size, 2, none⟩ (.slice a3 (limbs (d / G)).length c3)) := fun B => below_store3 HB3.out (Nat.le_refl _) _ _ _
  have hst := fun B : Bool => RatV.store (x := ⟨B, L, limbs (d / G)⟩) HN3.out k1 j1 K3'.out J3.out
  have HBE := hid hbe
  have HST := hid hst
  by_cases hl1 : (limbs (d / G)).length = 1
  ·obtain ⟨p1, o1, rfl, hp1, q1⟩ := j3.pick (show 0 < (limbs (d / G)).length by omega)
   have hd1 := limbs_len1 hl1
   have hne : ((dig (limbs (d / G)) 0 : Int) == 1) = false := by rw [beq_eq_false_iff_ne]; omega
   rw [Nat.add_zero] at q1
   generalize dig (limbs (d / G)) 0 = dg at *
   clear h1 j3 hbe hst hd1 hdp
   generalize hLd : limbs (d / G) = LD at *
   have hst1 := HST.out
   have hbe1 := HBE.out
   simp only [hl1] at hst1 hbe1
   have HST1 := hid hst1
   have HBE1 := hid hbe1
   rw [hl1] at j1 ⊢
   clear hLd hl1 hst1 hbe1
   cases hL : decide (0 < L.length)
   ·cases neg <;>
    ·go_wp2
     exact bodyPost_ret (v := .agg #[.bool false, .slice a2 L.length c2, .slice (some ⟨p1, o1, none⟩) 1 c3]) (by simp [results, Tryz.results46, go_sem, r0, r1, r2]) rfl ⟨_, rfl, by rw [HQ1.out, hL]; exact HST1.out false, HBE1.out false⟩
   ·cases neg
    ·go_wp2
     exact bodyPost_ret (v := .agg #[.bool false, .slice a2 L.length c2, .slice (some ⟨p1, o1, none⟩) 1 c3]) (by simp [results, Tryz.results46, go_sem, r0, r1, r2]) rfl ⟨_, rfl, by rw [HQ1.out, hL]; exact HST1.out false, HBE1.out false⟩
    ·go_wp2
     exact bodyPost_ret (v := .agg #[.bool true, .slice a2 L.length c2, .slice (some ⟨p1, o1, none⟩) 1 c3]) (by simp [results, Tryz.results46, go_sem, r0, r1, r2]) rfl ⟨_, rfl, by rw [HQ1.out, hL]; exact HST1.out true, HBE1.out true⟩
  ·have hne : (((limbs (d / G)).length : Int) == 1) = false := by rw [beq_eq_false_iff_ne]; omega
   clear h1 j3 hbe hst hdp hl1
   cases hL : decide (0 < L.length)
   ·cases neg <;>
    ·go_wp2
     exact bodyPost_ret (v := .agg #[.bool false, .slice a2 L.length c2, .slice a3 (limbs (d / G)).length c3]) (by simp [results, Tryz.results46, go_sem, r0, r1, r2]) rfl ⟨_, rfl, by rw [HQ1.out, hL]; exact HST.out false, HBE.out false⟩
   ·cases neg
    ·go_wp2
     exact bodyPost_ret (v := .agg #[.bool false, .slice a2 L.length c2, .slice a3 (limbs (d / G)).length c3]) (by simp [results, Tryz.results46, go_sem, r0, r1, r2]) rfl ⟨_, rfl, by rw [HQ1.out, hL]; exact HST.out false, HBE.out false⟩
    ·go_wp2
     exact bodyPost_ret (v := .agg #[.bool true, .slice a2 L.length c2, .slice a3 (limbs (d / G)).length c3]) (by simp [results, Tryz.results46, go_sem, r0, r1, r2]) rfl ⟨_, rfl, by rw [HQ1.out, hL]; exact HST.out true, HBE.out true⟩
theorem r3Canon {w : World} {v : Value} {x : RatL} (h : RatV w v x) (hr : RatLe x 1048576) : Calls Tryz.prog 58 #[v] w (RetR w (canonL x)) := by
 obtain ⟨an, ad, cn, cd, hv, h2, h3, h4, h5⟩ := h.ex
 obtain ⟨hr1, hr2⟩ := hr
 have hl1 := h4.len
 have hl2 := h5.len
 have H4 := hid h4
 have H5 := hid h5
 rw [hv]
 clear h h4 h5 hv
 go_enter Tryz.func58, Tryz.ntmps58
 go_wp2_with fail
 have hB0 : Below w.heap.size w ((w.alloc (ratO x an cn ad cd 37)).alloc (zerO 37)) :=
  ((Below.refl _ _).alloc (Nat.le_refl _) _).alloc (by simp) _
 have hX : Box3 ((w.alloc (ratO x an cn ad cd 37)).alloc (zerO 37)) w.heap.size (.bool x.neg) (.slice an x.num.length cn) (.slice ad x.den.length cd) :=
  (Box3.alloc w _ _ _ _).below ((Below.refl _ _).alloc (Nat.le_refl _) _)
 have hR : Box3 ((w.alloc (ratO x an cn ad cd 37)).alloc (zerO 37)) (w.heap.size + 1) (.bool false) (.slice none 0 0) (.slice none 0 0) := by
  have := Box3.alloc (w.alloc (ratO x an cn ad cd 37)) (.bool false) (.slice none 0 0) (.slice none 0 0) 37
  simpa using this
 have hN : NoInt ((w.alloc (ratO x an cn ad cd 37)).alloc (zerO 37)) (w.heap.size + 1) := by
  have := NoInt.alloc (w.alloc (ratO x an cn ad cd 37)) #[.bool false, .slice none 0 0, .slice none 0 0] 37 (by simp)
  simpa using this
 generalize (w.alloc (ratO x an cn ad cd 37)).alloc (zerO 37) = W at *
 have H52 := hid (H5.out.below hB0)
 have H42 := hid (H4.out.below hB0)
 obtain ⟨x0, x1, x2, xf, xlt⟩ := hX
 have HR := hid hR
 have HNo := hid hN
 have HB := hid hB0
 have xbl : Below W.heap.size W W.drew := (Below.refl _ _).drew
 clear hR hN hB0 xf H5 H4
 go_region_held3 (fun w' => w'.cell? ⟨w.heap.size, 0, none⟩ = some (.bool x.neg) /\ w'.cell? ⟨w.heap.size, 1, none⟩ = some (.slice an x.num.length cn) /\ w'.cell? ⟨w.heap.size, 2, none⟩ = some (.slice ad x.den.length cd))
  (first | exact S3_keep x0 x1 x2 xlt ‹Below W.heap.size W _› | go_keep)
  (first
   | (go_at_call 44; have hS := ‹Below W.heap.size W _›; refine (r3one cd h3 (H52.out.below hS) (by omega)).mono ?_; rintro e w1 ⟨a1, c1, l1, rfl, g1, g2, g3, g4, g5⟩
      have hS1 := hS.trans (g5.mono hS.size))
   | (go_at_call 46; have hS := ‹Below W.heap.size W _›; refine (r3quot x.neg cn c1 h2 g1 (H42.out.below hS) g2 rfl g3 (by omega) (by omega) (underN_pos _)).mono ?_
      rintro e w2 ⟨v2, rfl, ⟨bn, bd, m1, m2, rfl, k3, k4, k5, k6⟩, k2⟩
      have hS2 := hS.trans (k2.mono hS.size)
      obtain ⟨r0, r1, r2, rf, rlt⟩ := HR.out.below hS2
      have hN2 := hid (HNo.out.below hS2 HR.out.lt)
      have K5 := hid k5
      have K6 := hid k6
      have hB2 := hid (HB.out.trans (hS2.mono HB.out.size))))
 go_wp2
 exact bodyPost_ret (v := .agg #[.bool (canonL x).neg, .slice bn (canonL x).num.length m1, .slice bd (canonL x).den.length m2]) (by simp [results, Tryz.results58, go_sem, r0, r1, r2, canonL]) rfl ⟨_, rfl, RatV.store hN2.out k3 k4 K5.out K6.out, below_store3 hB2.out (Nat.le_succ _) _ _ _⟩
structure TwoR (w W : World) (g : Nat) (p q r s t u : Value) : Prop where
 a : Box3 W g p q r
 b : Box3 W (g + 1) s t u
 c : Box3 W (g + 1 + 1) (.bool false) (.slice none 0 0) (.slice none 0 0)
 nc : NoInt W (g + 1 + 1)
 bl : Below g w W
theorem TwoR.mk' (w : World) (p q r s t u : Value) (T : Nat) : TwoR w (((w.alloc (.cells #[p, q, r] T)).alloc (.cells #[s, t, u] T)).alloc (.cells #[.bool false, .slice none 0 0, .slice none 0 0] T)) w.heap.size p q r s t u := by
 have step : ∀ (W : World) (o : Obj), Below W.heap.size W (W.alloc o) := fun W o => (Below.refl _ _).alloc (Nat.le_refl _) _
 have s1 := step w (.cells #[p, q, r] T)
 have s2 := step (w.alloc (.cells #[p, q, r] T)) (.cells #[s, t, u] T)
 have s3 := step ((w.alloc (.cells #[p, q, r] T)).alloc (.cells #[s, t, u] T)) (.cells #[.bool false, .slice none 0 0, .slice none 0 0] T)
 have b1 := Box3.alloc w p q r T
 have b2 := Box3.alloc (w.alloc (.cells #[p, q, r] T)) s t u T
 have b3 := Box3.alloc ((w.alloc (.cells #[p, q, r] T)).alloc (.cells #[s, t, u] T)) (.bool false) (.slice none 0 0) (.slice none 0 0) T
 have n3 := NoInt.alloc ((w.alloc (.cells #[p, q, r] T)).alloc (.cells #[s, t, u] T)) #[.bool false, .slice none 0 0, .slice none 0 0] T (by simp)
 have b1' := (b1.below s2).below s3
 have b2' := b2.below s3
 have bl := (s1.trans (s2.mono (by simp))).trans (s3.mono (by simp; omega))
 simp only [World.size_alloc] at b2' b3 n3
 exact ⟨b1', b2', b3, n3, bl⟩
theorem r3Mul {w : World} {v u : Value} {x y : RatL} (hv : RatV w v x) (hu : RatV w u y) (hx : RatLe x 1048575) (hy : RatLe y 1048575) :
  Calls Tryz.prog 23 #[v, u] w (RetR w (ratL (ratOf x * ratOf y))) := by
 obtain ⟨an, ad, cn, cd, rfl, a2, a3, a4, a5⟩ := hv.ex
 obtain ⟨bn, bd, dn, dd, rfl, b2, b3, b4, b5⟩ := hu.ex
 have hQ : Hid (ratL (ratOf x * ratOf y) = quotN (x.neg != y.neg) (lval x.num * lval y.num) (underN x.den * underN y.den)) := by
  unfold Hid
  rw [quotN_ratL _ _ (Nat.mul_pos (underN_pos _) (underN_pos _)), mulQ]; rfl
 obtain ⟨hx1, hx2⟩ := hx
 obtain ⟨hy1, hy2⟩ := hy
 have hl1 := a4.len
 have hl2 := a5.len
 have hl3 := b4.len
 have hl4 := b5.len
 have A4 := hid a4
 have A5 := hid a5
 have B4 := hid b4
 have B5 := hid b5
 have hml : (limbs (lval x.num * lval y.num)).length <= 2097152 := Nat.le_trans (mul_len rfl rfl hx1 hy1 a4.lim b4.lim) (by omega)
 have hdp : 0 < underN x.den * underN y.den := Nat.mul_pos (underN_pos _) (underN_pos _)
 have HDp := hid hdp
 clear hv hu a4 a5 b4 b5 hdp
 go_enter Tryz.func23, Tryz.ntmps23
 go_wp2_with fail
 have hF := TwoR.mk' w (.bool x.neg) (.slice an x.num.length cn) (.slice ad x.den.length cd) (.bool y.neg) (.slice bn y.num.length dn) (.slice bd y.den.length dd) 37
 generalize ((w.alloc (ratO x an cn ad cd 37)).alloc (ratO y bn dn bd dd 37)).alloc (zerO 37) = W at *
 have HF := hid hF
 have HA4 := hid (A4.out.below hF.bl)
 have HA5 := hid (A5.out.below hF.bl)
 have HB4 := hid (B4.out.below hF.bl)
 have HB5 := hid (B5.out.below hF.bl)
 have xbl : Below W.heap.size W W.drew := (Below.refl _ _).drew
 have tok1 : True := trivial
 have tok2 : True := trivial
 clear hF A4 A5 B4 B5
 go_region_held3 (fun w' => w'.cell? ⟨w.heap.size, 0, none⟩ = some (.bool x.neg) /\ w'.cell? ⟨w.heap.size, 1, none⟩ = some (.slice an x.num.length cn) /\ w'.cell? ⟨w.heap.size, 2, none⟩ = some (.slice ad x.den.length cd) /\
   w'.cell? ⟨w.heap.size + 1, 0, none⟩ = some (.bool y.neg) /\ w'.cell? ⟨w.heap.size + 1, 1, none⟩ = some (.slice bn y.num.length dn) /\ w'.cell? ⟨w.heap.size + 1, 2, none⟩ = some (.slice bd y.den.length dd))
  (first | exact S33_keep HF.out.a HF.out.b HF.out.a.lt HF.out.b.lt ‹Below W.heap.size W _› | exact S33_keep (B := w.heap.size + 1 + 1) HF.out.a HF.out.b (Nat.lt_succ_of_lt (Nat.lt_succ_self _)) (Nat.lt_succ_self _) (below_store3 (hS5.mono (Nat.le_of_lt HF.out.c.lt)) (Nat.le_refl _) _ _ _))
  (first
   | (go_at_call 43; have _t := tok1; clear tok1; have hS := ‹Below W.heap.size W _›; refine (r1Mul cn dn (HA4.out.below hS) (HB4.out.below hS) rfl rfl (by omega)).mono ?_; rintro e w1 ⟨a1, c1, rfl, g1, g2, g3, _⟩
      have hS1 := hS.trans (g3.mono hS.size); have G2 := hid g2; clear g2)
   | (go_at_call 44; have _t := tok2; clear tok2; have hS := ‹Below W.heap.size W _›; refine (r3one cd a3 (HA5.out.below hS) (by omega)).mono ?_; rintro e w2 ⟨a2', c2, l2, rfl, p1, p2, p3, p4, p5⟩
      have hS2 := hS.trans (p5.mono hS.size); have G2b := hid (G2.out.below p5); have P2 := hid p2; have P3 := hid p3; clear p2 p3)
   | (go_at_call 44; have hS := ‹Below W.heap.size W _›; refine (r3one dd b3 (HB5.out.below hS) (by omega)).mono ?_; rintro e w3 ⟨a3', c3, l3, rfl, q1, q2, q3, q4, q5⟩
      have hS3 := hS.trans (q5.mono hS.size); have G2c := hid (G2b.out.below q5); have P2b := hid (P2.out.below q5); have Q2 := hid q2; have Q3 := hid q3; clear q2 q3)
   | (go_at_call 43; have hS := ‹Below W.heap.size W _›; refine (r1Mul c2 c3 P2b.out Q2.out P3.out Q3.out (by omega)).mono ?_; rintro e w4 ⟨a4, c4, rfl, t1, t2, t3, _⟩
      have hS4 := hS.trans (t3.mono hS.size); have G2d := hid (G2c.out.below t3); have T2 := hid t2; clear t2
      have hdl : (limbs (underN x.den * underN y.den)).length <= 2097152 := Nat.le_trans (mul_len P3.out Q3.out p4 q4 P2b.out.lim Q2.out.lim) (by omega))
   | (go_at_call 46; have hS := ‹Below W.heap.size W _›; refine (r3quot (x.neg != y.neg) c1 c4 g1 t1 G2d.out T2.out (lval_limbs _) (lval_limbs _) hml hdl HDp.out).mono ?_
      rintro e w5 ⟨v5, rfl, ⟨bn', bd', m1, m2, rfl, k3, k4, k5, k6⟩, k2⟩
      have hS5 := hS.trans (k2.mono hS.size)
      obtain ⟨r0, r1, r2, rf, rlt⟩ := HF.out.c.below hS5
      have hN5 := hid (HF.out.nc.below hS5 HF.out.c.lt)
      have K5 := hid k5
      have K6 := hid k6
      have hB5 := hid (HF.out.bl.trans (hS5.mono (by have := HF.out.a.lt; omega)))))
 generalize quotN (x.neg != y.neg) (lval x.num * lval y.num) (underN x.den * underN y.den) = R at *
 go_wp2
 exact bodyPost_ret (v := .agg #[.bool R.neg, .slice bn' R.num.length m1, .slice bd' R.den.length m2]) (by simp [results, Tryz.results23, go_sem, r0, r1, r2]) rfl ⟨_, rfl, by rw [hQ.out]; exact RatV.store hN5.out k3 k4 K5.out K6.out, below_store3 hB5.out (by omega) _ _ _⟩
structure TwoI (w W : World) (g : Nat) (p q r s : Value) : Prop where
 a : Box2 W g p q
 b : Box2 W (g + 1) r s
 c : Box2 W (g + 1 + 1) (.bool false) (.slice none 0 0)
 nc : NoInt W (g + 1 + 1)
 bl : Below g w W
theorem TwoI.mk' (w : World) (p q r s : Value) (T : Nat) : TwoI w (((w.alloc (.cells #[p, q] T)).alloc (.cells #[r, s] T)).alloc (.cells #[.bool false, .slice none 0 0] T)) w.heap.size p q r s := by
 have step : ∀ (W : World) (o : Obj), Below W.heap.size W (W.alloc o) := fun W o => (Below.refl _ _).alloc (Nat.le_refl _) _
 have s1 := step w (.cells #[p, q] T)
 have s2 := step (w.alloc (.cells #[p, q] T)) (.cells #[r, s] T)
 have s3 := step ((w.alloc (.cells #[p, q] T)).alloc (.cells #[r, s] T)) (.cells #[.bool false, .slice none 0 0] T)
 have b1 := Box2.alloc w p q T
 have b2 := Box2.alloc (w.alloc (.cells #[p, q] T)) r s T
 have b3 := Box2.alloc ((w.alloc (.cells #[p, q] T)).alloc (.cells #[r, s] T)) (.bool false) (.slice none 0 0) T
 have n3 := NoInt.alloc ((w.alloc (.cells #[p, q] T)).alloc (.cells #[r, s] T)) #[.bool false, .slice none 0 0] T (by simp)
 have b1' := (b1.below s2).below s3
 have b2' := b2.below s3
 have bl := (s1.trans (s2.mono (by simp))).trans (s3.mono (by simp; omega))
 simp only [World.size_alloc] at b2' b3 n3
 exact ⟨b1', b2', b3, n3, bl⟩
theorem below_store2 {n g : Nat} {w w' : World} (h : Below n w w') (hg : n <= g) (p q : Value) : Below n w ((w'.setCell ⟨g, 0, none⟩ p).setCell ⟨g, 1, none⟩ q) :=
 (h.setCell (p := ⟨g, 0, none⟩) hg p).setCell (p := ⟨g, 1, none⟩) hg q
theorem IntC.store {w : World} {g : Nat} {z : Int} {a : Option Addr} {c : Nat} (hN : NoInt w g) (h1 : (limbs z.natAbs).length <= c) (k : U32s w a (limbs z.natAbs)) :
  IntC ((w.setCell ⟨g, 0, none⟩ (.bool (decide (z < 0)))).setCell ⟨g, 1, none⟩ (.slice a (limbs z.natAbs).length c)) (.agg #[.bool (decide (z < 0)), .slice a (limbs z.natAbs).length c]) z :=
 ⟨a, c, rfl, h1, (k.setCell hN _ _).setCell (hN.setCell _ _ (by simp)) _ _⟩
theorem add_len {l m : List Nat} {N : Nat} (hl : Lim l) (hm : Lim m) (h1 : l.length <= N) (h2 : m.length <= N) : (limbs (lval l + lval m)).length <= N + 1 := by
 refine limbs_len_le ?_
 have e1 := Nat.lt_of_lt_of_le (lval_lt hl) (Nat.pow_le_pow_right (show 0 < 4294967296 by omega) h1)
 have e2 := Nat.lt_of_lt_of_le (lval_lt hm) (Nat.pow_le_pow_right (show 0 < 4294967296 by omega) h2)
 rw [Nat.pow_succ]
 omega
theorem sgn_add_same (b : Bool) (x y : Nat) : sgn b (x + y) = sgn b x + sgn b y := by cases b <;> simp [sgn] <;> omega
theorem sgn_add_ge {a b : Bool} (h : a ≠ b) {x y : Nat} (hxy : y <= x) : sgn a (x - y) = sgn a x + sgn b y := by
 cases a <;> cases b <;> simp [sgn] at h ⊢ <;> omega
theorem sgn_add_lt {a b : Bool} (h : a ≠ b) {x y : Nat} (hxy : x < y) : sgn b (y - x) = sgn a x + sgn b y := by
 cases a <;> cases b <;> simp [sgn] at h ⊢ <;> omega
theorem r2Add_same {w : World} {v u : Value} {n1 : Bool} {x y k1 k2 : Nat} (hv : IntV w v n1 x k1) (hu : IntV w u n1 y k2) (hr1 : k1 <= 4194304) (hr2 : k2 <= 4194304) :
  Calls Tryz.prog 45 #[v, u] w (RetZ w (sgn n1 x + sgn n1 y)) := by
 obtain ⟨a, c, l, rfl, h1, h2, h3, h4⟩ := hv.ex
 obtain ⟨b, d, m, rfl, g1, g2, g3, g4⟩ := hu.ex
 have hl1 := h2.len
 have hl2 := g2.len
 have H2 := hid h2
 have G2 := hid g2
 have H3 := hid h3
 have G3 := hid g3
 have hsl : (limbs (x + y)).length <= 4194305 := by rw [<- h3, <- g3]; exact add_len h2.lim g2.lim (by omega) (by omega)
 rw [<- sgn_add_same]
 clear hv hu h2 g2 h3 g3
 go_enter Tryz.func45, Tryz.ntmps45
 have hF := TwoI.mk' w (.bool n1) (.slice a l.length c) (.bool n1) (.slice b m.length d) 76
 go_wp2
 generalize ((w.alloc (.cells #[.bool n1, .slice a l.length c] 76)).alloc (.cells #[.bool n1, .slice b m.length d] 76)).alloc (.cells #[.bool false, .slice none 0 0] 76) = W at *
 have HF := hid hF
 have HH2 := hid (H2.out.below hF.bl)
 have HG2 := hid (G2.out.below hF.bl)
 have xbl : Below W.heap.size W W.drew := (Below.refl _ _).drew
 clear hF H2 G2
 go_region_held3 (fun w' => w'.cell? ⟨w.heap.size, 0, none⟩ = some (.bool n1) /\ w'.cell? ⟨w.heap.size, 1, none⟩ = some (.slice a l.length c) /\ w'.cell? ⟨w.heap.size + 1, 0, none⟩ = some (.bool n1) /\ w'.cell? ⟨w.heap.size + 1, 1, none⟩ = some (.slice b m.length d))
  (first | exact S22_keep HF.out.a HF.out.b ‹Below W.heap.size W _› | exact S22_store HF.out.a HF.out.b ‹Below W.heap.size W _› _ _)
  (first
   | (go_at_call 85; have hS := ‹Below W.heap.size W _›; refine (r1Add c d (HH2.out.below hS) (HG2.out.below hS) H3.out G3.out (by omega) (by omega)).mono ?_; rintro e w1 ⟨a1, c1, rfl, p1, p2, p3, _⟩
      have hS1 := hS.trans (p3.mono hS.size))
   | (go_at_call 84; have hS := ‹Below W.heap.size W _›; refine (r2Make n1 c1 p1 p2 (lval_limbs _) (by omega)).mono ?_
      rintro e w2 ⟨v2, rfl, ⟨a3, c3, rfl, q1, q2⟩, q5⟩
      have hS2 := hS.trans (q5.mono hS.size)
      obtain ⟨r0, r1, rf, rlt⟩ := HF.out.c.below hS2
      have hN2 := hid (HF.out.nc.below hS2 HF.out.c.lt)
      have Q2 := hid q2
      have hB2 := hid (HF.out.bl.trans (hS2.mono (by have := HF.out.a.lt; omega)))))
 have HI := hid (IntC.store hN2.out q1 Q2.out)
 have HBf := hid (below_store2 (p := .bool (decide (sgn n1 (x + y) < 0))) (q := .slice a3 (limbs (sgn n1 (x + y)).natAbs).length c3) hB2.out (show w.heap.size <= w.heap.size + 1 + 1 by omega))
 generalize decide (sgn n1 (x + y) < 0) = B at *
 generalize (limbs (sgn n1 (x + y)).natAbs).length = L at *
 go_wp2
 exact bodyPost_ret (v := .agg #[.bool B, .slice a3 L c3]) (by simp [results, Tryz.results45, go_sem, r0, r1]) rfl ⟨_, rfl, HI.out, HBf.out⟩
theorem r2Add_diff {w : World} {v u : Value} {n1 n2 : Bool} {x y k1 k2 : Nat} (hv : IntV w v n1 x k1) (hu : IntV w u n2 y k2) (hn : n1 ≠ n2) (hr1 : k1 <= 4194304) (hr2 : k2 <= 4194304) :
  Calls Tryz.prog 45 #[v, u] w (RetZ w (sgn n1 x + sgn n2 y)) := by
 obtain ⟨a, c, l, rfl, h1, h2, h3, h4⟩ := hv.ex
 obtain ⟨b, d, m, rfl, g1, g2, g3, g4⟩ := hu.ex
 have hl1 := h2.len
 have hl2 := g2.len
 have H2 := hid h2
 have G2 := hid g2
 have H3 := hid h3
 have G3 := hid g3
 have hne : (n1 == n2) = false := by simpa using hn
 have HN := hid hn
 have hlx : (limbs x).length <= 4194304 := by have := limbs_len_of_lval h2.lim; rw [h3] at this; omega
 have hly : (limbs y).length <= 4194304 := by have := limbs_len_of_lval g2.lim; rw [g3] at this; omega
 clear hv hu h2 g2 h3 g3 hn
 go_enter Tryz.func45, Tryz.ntmps45
 have hF := TwoI.mk' w (.bool n1) (.slice a l.length c) (.bool n2) (.slice b m.length d) 76
 go_wp2_with fail
 generalize ((w.alloc (.cells #[.bool n1, .slice a l.length c] 76)).alloc (.cells #[.bool n2, .slice b m.length d] 76)).alloc (.cells #[.bool false, .slice none 0 0] 76) = W at *
 have HF := hid hF
 have HH2 := hid (H2.out.below hF.bl)
 have HG2 := hid (G2.out.below hF.bl)
 have HS1 := hid (r1Sub c d HH2.out HG2.out H3.out G3.out (by omega) (by omega))
 clear hF H2 G2 hne
 refine HS1.out.mono ?_
 rintro e w1 (⟨hlt, rfl, hb1⟩ | ⟨hge, hb1, a1, c1, rfl, p1, p2, _⟩)
 ·obtain ⟨r0, r1, rf, rlt⟩ := HF.out.a.below hb1
  obtain ⟨s0, s1, sf, slt⟩ := HF.out.b.below hb1
  have HB1 := hid hb1
  have HS2 := hid (r1Sub d c (HG2.out.below hb1) (HH2.out.below hb1) G3.out H3.out (by omega) (by omega))
  clear hb1 HS1 rf sf
  go_wp2_with fail
  refine HS2.out.mono ?_
  rintro e w2 (⟨hlt2, _⟩ | ⟨hge, hb2, a1, c1, rfl, p1, p2, _⟩)
  ·omega
  obtain ⟨r0', r1', rf, rlt'⟩ := HF.out.a.below (HB1.out.trans (hb2.mono HB1.out.size))
  obtain ⟨s0', s1', sf, slt'⟩ := HF.out.b.below (HB1.out.trans (hb2.mono HB1.out.size))
  have HB2 := hid (HB1.out.trans (hb2.mono HB1.out.size))
  have hM := r2Make n2 c1 p1 p2 (lval_limbs _) (by have := limbs_len_mono (Nat.sub_le y x); omega)
  rw [sgn_add_lt HN.out hlt] at hM
  have HM := hid hM
  clear hM hb2 HS2 p2 HB1 r0 r1 s0 s1 rlt slt rf sf
  go_wp2_with fail
  refine HM.out.mono ?_
  rintro e w3 ⟨v3, rfl, ⟨a3, c3, rfl, q1, q2⟩, q5⟩
  have hS3 := HB2.out.trans (q5.mono HB2.out.size)
  obtain ⟨t0, t1, tf, tlt⟩ := HF.out.c.below hS3
  have HI := hid (IntC.store (HF.out.nc.below hS3 HF.out.c.lt) q1 q2)
  have HBf := hid (below_store2 (p := .bool (decide (sgn n1 x + sgn n2 y < 0))) (q := .slice a3 (limbs (sgn n1 x + sgn n2 y).natAbs).length c3) (HF.out.bl.trans (hS3.mono (by have := HF.out.a.lt; omega))) (show w.heap.size <= w.heap.size + 1 + 1 by omega))
  clear q2 q5 hS3 HM
  generalize decide (sgn n1 x + sgn n2 y < 0) = B at *
  generalize (limbs (sgn n1 x + sgn n2 y).natAbs).length = L at *
  go_wp2
  exact bodyPost_ret (v := .agg #[.bool B, .slice a3 L c3]) (by simp [results, Tryz.results45, go_sem, t0, t1]) rfl ⟨_, rfl, HI.out, HBf.out⟩
 ·obtain ⟨r0, r1, rf, rlt⟩ := HF.out.a.below hb1
  obtain ⟨s0, s1, sf, slt⟩ := HF.out.b.below hb1
  have HB2 := hid hb1
  have hM := r2Make n1 c1 p1 p2 (lval_limbs _) (by have := limbs_len_mono (Nat.sub_le x y); omega)
  rw [sgn_add_ge HN.out hge] at hM
  have HM := hid hM
  clear hM hb1 HS1 p2 rf sf
  go_wp2_with fail
  refine HM.out.mono ?_
  rintro e w3 ⟨v3, rfl, ⟨a3, c3, rfl, q1, q2⟩, q5⟩
  have hS3 := HB2.out.trans (q5.mono HB2.out.size)
  obtain ⟨t0, t1, tf, tlt⟩ := HF.out.c.below hS3
  have HI := hid (IntC.store (HF.out.nc.below hS3 HF.out.c.lt) q1 q2)
  have HBf := hid (below_store2 (p := .bool (decide (sgn n1 x + sgn n2 y < 0))) (q := .slice a3 (limbs (sgn n1 x + sgn n2 y).natAbs).length c3) (HF.out.bl.trans (hS3.mono (by have := HF.out.a.lt; omega))) (show w.heap.size <= w.heap.size + 1 + 1 by omega))
  clear q2 q5 hS3 HM
  generalize decide (sgn n1 x + sgn n2 y < 0) = B at *
  generalize (limbs (sgn n1 x + sgn n2 y).natAbs).length = L at *
  go_wp2
  exact bodyPost_ret (v := .agg #[.bool B, .slice a3 L c3]) (by simp [results, Tryz.results45, go_sem, t0, t1]) rfl ⟨_, rfl, HI.out, HBf.out⟩
theorem r2Add {w : World} {v u : Value} {n1 n2 : Bool} {x y k1 k2 : Nat} (hv : IntV w v n1 x k1) (hu : IntV w u n2 y k2) (hr1 : k1 <= 4194304) (hr2 : k2 <= 4194304) :
  Calls Tryz.prog 45 #[v, u] w (RetZ w (sgn n1 x + sgn n2 y)) := by
 by_cases hn : n1 = n2
 ·subst hn; exact r2Add_same hv hu hr1 hr2
 ·exact r2Add_diff hv hu hn hr1 hr2
structure Fro (B : Nat) (W0 w : World) : Prop where
 base : B <= w.heap.size
 be : Below B W0 w
theorem Fro.start {B : Nat} {W0 : World} (h : B <= W0.heap.size) : Fro B W0 W0.drew := ⟨h, (Below.refl _ _).drew⟩
theorem Fro.alloc {B : Nat} {W0 w : World} (h : Fro B W0 w) (o : Obj) : Fro B W0 (w.alloc o) := ⟨by have := h.base; simp; omega, h.be.alloc h.base o⟩
def prG (ga gb : Nat) (neg : Bool) (vn vd : Value) (N dn kd B : Nat) (i : Nat) (v : Value) (w : World) : Prop :=
 match i with
 | 0 => v = .pointer (some ⟨ga, 0, none⟩)
 | 1 => v = .bool neg
 | 2 => v = .pointer (some ⟨ga, 1, none⟩)
 | 3 => v = vn
 | 4 => v = .pointer (some ⟨gb, 2, none⟩)
 | 5 => v = vd
 | 6 => ∃ a c l, v = .slice a l.length c /\ l.length <= c /\ Hid (U32s w a l) /\ Hid (lval l = dn) /\ l.length <= kd
 | 7 => ∃ a c, v = .slice a (limbs N).length c /\ (limbs N).length <= c /\ Hid (U32s w a (limbs N))
 | 8 => ∃ a c, v = .agg #[.bool neg, .slice a (limbs N).length c] /\ (limbs N).length <= c /\ Hid (U32s w a (limbs N))
 | 9 => ∃ g, B <= g /\ v = .pointer (some ⟨g, 0, none⟩) /\ Box2 w g (.bool false) (.slice none 0 0) /\ NoInt w g
 | _ => True
theorem prG_below {ga gb : Nat} {neg : Bool} {vn vd : Value} {N dn kd B i : Nat} {v : Value} {w w' : World} (h : prG ga gb neg vn vd N dn kd B i v w) (hb : Below w.heap.size w w') : prG ga gb neg vn vd N dn kd B i v w' := by
 match i, h with
 | 0, h => exact h
 | 1, h => exact h
 | 2, h => exact h
 | 3, h => exact h
 | 4, h => exact h
 | 5, h => exact h
 | 6, ⟨a, c, l, h1, h2, h3, h4, h5⟩ => exact ⟨a, c, l, h1, h2, h3.out.below hb, h4, h5⟩
 | 7, ⟨a, c, h1, h2, h3⟩ => exact ⟨a, c, h1, h2, h3.out.below hb⟩
 | 8, ⟨a, c, h1, h2, h3⟩ => exact ⟨a, c, h1, h2, h3.out.below hb⟩
 | 9, ⟨g, h1, h2, h3, h4⟩ => exact ⟨g, h1, h2, h3.below hb, h4.below hb h3.lt⟩
 | _ + 10, _ => trivial
theorem TwoR.below {w W W' : World} {g : Nat} {p q r s t u : Value} (h : TwoR w W g p q r s t u) (hb : Below W.heap.size W W') : TwoR w W' g p q r s t u :=
 ⟨h.a.below hb, h.b.below hb, h.c.below hb, h.nc.below hb h.c.lt, h.bl.trans (hb.mono (by have := h.a.lt; omega))⟩
theorem Box2.store {w : World} {g : Nat} {p q : Value} (h : Box2 w g p q) (p' q' : Value) : Box2 ((w.setCell ⟨g, 0, none⟩ p').setCell ⟨g, 1, none⟩ q') g p' q' := by
 refine ⟨?_, ?_, ?_, ?_⟩
 ·rw [World.cell?_setCell_other _ _ _ _ (by intro e; cases e)]
  exact World.cell?_setCell_same _ _ _ h.c0
 ·refine World.cell?_setCell_same _ _ _ (u := q) ?_
  rw [World.cell?_setCell_other _ _ _ _ (by intro e; cases e)]
  exact h.c1
 ·intro o
  simp [World.frozen?_setCell, h.free]
 ·simpa using h.lt
theorem U32s.store2 {w : World} {g : Nat} {a : Option Addr} {l : List Nat} (h : U32s w a l) (hN : NoInt w g) (b : Bool) (x : Option Addr) (n c : Nat) : U32s ((w.setCell ⟨g, 0, none⟩ (.bool b)).setCell ⟨g, 1, none⟩ (.slice x n c)) a l :=
 (h.setCell hN _ _).setCell (hN.setCell _ _ (by simp)) _ _
theorem sgn_of_int (z : Int) : sgn (decide (z < 0)) z.natAbs = z := by
 unfold sgn
 by_cases h : z < 0
 ·rw [decide_eq_true h]; simp; omega
 ·rw [decide_eq_false h]; simp; omega
theorem underLen (d : List Nat) (h : Lim d) : (limbs (underN d)).length <= d.length + 1 := by
 unfold underN
 split
 ·rw [limbs_one]; simp
 ·have := limbs_len_of_lval h; omega
theorem S4_keep {w W w1 : World} {gs g : Nat} {p q a b c d e f : Value} (h : Box2 W gs p q) (hF : TwoR w W g a b c d e f) (hb : Below W.heap.size W w1) :
  w1.cell? ⟨gs, 0, none⟩ = some p /\ w1.cell? ⟨gs, 1, none⟩ = some q /\ w1.cell? ⟨g, 2, none⟩ = some c /\ w1.cell? ⟨g + 1, 2, none⟩ = some f :=
 ⟨(hb.cell h.lt).trans h.c0, (hb.cell h.lt).trans h.c1, (hb.cell hF.a.lt).trans hF.a.c2, (hb.cell hF.b.lt).trans hF.b.c2⟩
theorem S4_store {w W w1 : World} {gs g : Nat} {p q a b c d e f : Value} (h : Box2 W gs p q) (hF : TwoR w W g a b c d e f) (hb : Below W.heap.size W w1) (hne : g + 1 + 1 < gs) (x y z : Value) :
  (((w1.setCell ⟨g + 1 + 1, 0, none⟩ x).setCell ⟨g + 1 + 1, 1, none⟩ y).setCell ⟨g + 1 + 1, 2, none⟩ z).cell? ⟨gs, 0, none⟩ = some p /\ (((w1.setCell ⟨g + 1 + 1, 0, none⟩ x).setCell ⟨g + 1 + 1, 1, none⟩ y).setCell ⟨g + 1 + 1, 2, none⟩ z).cell? ⟨gs, 1, none⟩ = some q /\
  (((w1.setCell ⟨g + 1 + 1, 0, none⟩ x).setCell ⟨g + 1 + 1, 1, none⟩ y).setCell ⟨g + 1 + 1, 2, none⟩ z).cell? ⟨g, 2, none⟩ = some c /\ (((w1.setCell ⟨g + 1 + 1, 0, none⟩ x).setCell ⟨g + 1 + 1, 1, none⟩ y).setCell ⟨g + 1 + 1, 2, none⟩ z).cell? ⟨g + 1, 2, none⟩ = some f := by
 obtain ⟨h1, h2, h3, h4⟩ := S4_keep h hF hb
 refine ⟨?_, ?_, ?_, ?_⟩ <;> rw [far2 (by omega), far2 (by omega), far2 (by omega)] <;> assumption
theorem r3Add {w : World} {v u : Value} {x y : RatL} (hv : RatV w v x) (hu : RatV w u y) (hx : RatLe x 524286) (hy : RatLe y 524286) :
  Calls Tryz.prog 22 #[v, u] w (RetR w (ratL (ratOf x + ratOf y))) := by
 obtain ⟨an, ad, cn, cd, rfl, a2, a3, a4, a5⟩ := hv.ex
 obtain ⟨bn, bd, dn, dd, rfl, b2, b3, b4, b5⟩ := hu.ex
 obtain ⟨hx1, hx2⟩ := hx
 obtain ⟨hy1, hy2⟩ := hy
 have hl1 := a4.len
 have hl2 := a5.len
 have hl3 := b4.len
 have hl4 := b5.len
 have A4 := hid a4
 have A5 := hid a5
 have B4 := hid b4
 have B5 := hid b5
 have HNUMx := hid a4.lim
 have HDENx := hid a5.lim
 have HNUMy := hid b4.lim
 have HDENy := hid b5.lim
 clear hv hu a4 a5 b4 b5
 go_enter Tryz.func22, Tryz.ntmps22
 go_upto_region 1 with fail
 have hF := TwoR.mk' w (.bool x.neg) (.slice an x.num.length cn) (.slice ad x.den.length cd) (.bool y.neg) (.slice bn y.num.length dn) (.slice bd y.den.length dd) 37
 generalize ((w.alloc (ratO x an cn ad cd 37)).alloc (ratO y bn dn bd dd 37)).alloc (zerO 37) = W at *
 have HF := hid hF
 have HA4 := hid (A4.out.below hF.bl)
 have HA5 := hid (A5.out.below hF.bl)
 have HB4 := hid (B4.out.below hF.bl)
 have HB5 := hid (B5.out.below hF.bl)
 clear hF A4 A5 B4 B5
 refine wp_region_slots_lit (by kernel_rfl) (by kernel_rfl) (by kernel_rfl) (by kernel_rfl) (by kernel_rfl) (Fro W.heap.size W) (fun w w' => Below w.heap.size w w') (prG (w.heap.size) (w.heap.size + 1) x.neg (.slice an x.num.length cn) (.slice bd y.den.length dd) (lval x.num * underN y.den) (underN y.den) (y.den.length + 1) W.heap.size) (fun i v w w' h hb => prG_below h hb) (Fro.start (Nat.le_refl _)) ?_ ?_
 ·intro ops
  simp only [List.dropLast, Shows]
  refine ⟨?_, ?_, ?_, ?_, ?_, ?_, ?_, ?_, ?_, ?_, trivial⟩
  all_goals (intro g V hR hL; have hB := hR.base; obtain ⟨q0, q1, q2, q3, q4, q5⟩ := S33_keep HF.out.a HF.out.b HF.out.a.lt HF.out.b.lt hR.be; simp only [Laid, Region.binds, forall_const, Bool.false_eq_true, false_implies, prG] at hL; simp [fillFrom, Act.put])
  ·clear hL
   have HR := hid hR
   clear hR
   go_wp2
   exact ⟨_, rfl, HR.out, Below.refl _ _, rfl⟩
  ·generalize g 0 = y0 at hL ⊢
   obtain ⟨rfl, _⟩ := hL
   have HR := hid hR
   clear hR
   go_wp2
   exact ⟨_, rfl, HR.out, Below.refl _ _, rfl⟩
  ·clear hL
   have HR := hid hR
   clear hR
   go_wp2
   exact ⟨_, rfl, HR.out, Below.refl _ _, rfl⟩
  ·generalize g 2 = y2 at hL ⊢
   obtain ⟨rfl, _⟩ := hL
   have HR := hid hR
   clear hR
   go_wp2
   exact ⟨_, rfl, HR.out, Below.refl _ _, rfl⟩
  ·clear hL
   have HR := hid hR
   clear hR
   go_wp2
   exact ⟨_, rfl, HR.out, Below.refl _ _, rfl⟩
  ·generalize g 4 = y4 at hL ⊢
   obtain ⟨rfl, _⟩ := hL
   have HR := hid hR
   clear hR
   go_wp2
   exact ⟨_, rfl, HR.out, Below.refl _ _, rfl⟩
  ·generalize g 5 = y5 at hL ⊢
   obtain ⟨rfl, _⟩ := hL
   have HR := hid hR
   clear hR
   go_wp2_with fail
   refine (r3one dd b3 (HB5.out.below HR.out.be) (by omega)).mono ?_
   rintro e w1 ⟨a1, c1, l1, rfl, p1, p2, p3, p4, p5⟩
   have HP2 := hid p2
   have HP3 := hid p3
   have HP5 := hid p5
   clear p2 p3 p5 q0 q1 q2 q3 q4 q5
   go_wp2
   exact ⟨_, rfl, ⟨Nat.le_trans hB HP5.out.size, HR.out.be.trans (HP5.out.mono hB)⟩, HP5.out, a1, c1, l1, rfl, p1, HP2, HP3, p4⟩
  ·generalize g 3 = y3 at hL ⊢
   generalize g 6 = y6 at hL ⊢
   obtain ⟨rfl, ⟨a1, c1, l1, rfl, p1, HP2, HP3, p4⟩, _, _⟩ := hL
   have HR := hid hR
   clear hR
   go_wp2_with fail
   refine (r1Mul cn c1 (HA4.out.below HR.out.be) HP2.out rfl HP3.out (by omega)).mono ?_
   rintro e w1 ⟨a2, c2, rfl, g1, g2, g3, _⟩
   have HG2 := hid g2
   have HG3 := hid g3
   clear g2 g3 q0 q1 q2 q3 q4 q5
   go_wp2
   exact ⟨_, rfl, ⟨Nat.le_trans hB HG3.out.size, HR.out.be.trans (HG3.out.mono hB)⟩, HG3.out, a2, c2, rfl, g1, HG2⟩
  ·generalize g 1 = y1 at hL ⊢
   generalize g 7 = y7 at hL ⊢
   obtain ⟨rfl, ⟨a2, c2, rfl, g1, HG2⟩, _⟩ := hL
   have HR := hid hR
   clear hR
   go_wp2
   exact ⟨_, rfl, HR.out, Below.refl _ _, a2, c2, rfl, g1, HG2⟩
  ·clear hL
   have HR := hid hR
   clear hR
   go_wp2
   exact ⟨_, rfl, HR.out.alloc _, (Below.refl V.heap.size V).alloc (Nat.le_refl _) _, V.heap.size, hB, rfl, Box2.alloc _ _ _ _, NoInt.alloc V _ _ (by simp)⟩
 intro ops g W1 hR hL
 simp only [List.dropLast, List.getLastD_cons, List.getLastD_nil, fillFrom, Act.put, List.length_cons, List.length_nil, Nat.reduceAdd, LaidAll] at hL ⊢
 have hB1 := hR.base
 have HV := hL.1.2
 have HP := hL.2
 simp only [prG] at HV HP
 clear hL
 generalize g 8 = yv at HV ⊢
 generalize g 9 = yp at HP ⊢
 obtain ⟨ak1, ck1, rfl, g11, HG21⟩ := HV
 obtain ⟨gp1, hgp1, rfl, hbx, hno⟩ := HP
 have HBX1 := hid hbx
 have HNO1 := hid hno
 obtain ⟨e0, e1, ef, elt⟩ := hbx
 have HR1 := hid hR
 clear hR hno
 go_upto_region 2 with fail
 have hbw := below_store2 (p := .bool x.neg) (q := .slice ak1 (limbs (lval x.num * underN y.den)).length ck1) HR1.out.be hgp1
 have HBX1' := HBX1.out.store (.bool x.neg) (.slice ak1 (limbs (lval x.num * underN y.den)).length ck1)
 have hu1 := HG21.out.store2 HNO1.out x.neg ak1 (limbs (lval x.num * underN y.den)).length ck1
 generalize (W1.setCell ⟨gp1, 0, none⟩ (.bool x.neg)).setCell ⟨gp1, 1, none⟩ (.slice ak1 (limbs (lval x.num * underN y.den)).length ck1) = W2 at *
 have HX2 := hid HBX1'
 have HU2 := hid hu1
 have HF2 := hid (HF.out.below hbw)
 have HA52 := hid (HA5.out.below hbw)
 have HB42 := hid (HB4.out.below hbw)
 have HB52 := hid (HB5.out.below hbw)
 clear hbw HBX1' hu1 HBX1 HNO1 HR1 HG21 e0 e1 ef elt HA5 HB4 HB5 HA4 HF hgp1 hB1
 refine wp_region_slots_lit (by kernel_rfl) (by kernel_rfl) (by kernel_rfl) (by kernel_rfl) (by kernel_rfl) (Fro W2.heap.size W2) (fun w w' => Below w.heap.size w w') (prG (w.heap.size + 1) (w.heap.size) y.neg (.slice bn y.num.length dn) (.slice ad x.den.length cd) (lval y.num * underN x.den) (underN x.den) (x.den.length + 1) W2.heap.size) (fun i v w w' h hb => prG_below h hb) (Fro.start (Nat.le_refl _)) ?_ ?_
 ·intro ops
  simp only [List.dropLast, Shows]
  refine ⟨?_, ?_, ?_, ?_, ?_, ?_, ?_, ?_, ?_, ?_, trivial⟩
  all_goals (intro g V hR hL; have hB := hR.base; obtain ⟨q0, q1, q2, q3, q4, q5⟩ := S33_keep HF2.out.a HF2.out.b HF2.out.a.lt HF2.out.b.lt hR.be; simp only [Laid, Region.binds, forall_const, Bool.false_eq_true, false_implies, prG] at hL; simp [fillFrom, Act.put])
  ·clear hL
   have HR := hid hR
   clear hR
   go_wp2
   exact ⟨_, rfl, HR.out, Below.refl _ _, rfl⟩
  ·generalize g 0 = y0 at hL ⊢
   obtain ⟨rfl, _⟩ := hL
   have HR := hid hR
   clear hR
   go_wp2
   exact ⟨_, rfl, HR.out, Below.refl _ _, rfl⟩
  ·clear hL
   have HR := hid hR
   clear hR
   go_wp2
   exact ⟨_, rfl, HR.out, Below.refl _ _, rfl⟩
  ·generalize g 2 = y2 at hL ⊢
   obtain ⟨rfl, _⟩ := hL
   have HR := hid hR
   clear hR
   go_wp2
   exact ⟨_, rfl, HR.out, Below.refl _ _, rfl⟩
  ·clear hL
   have HR := hid hR
   clear hR
   go_wp2
   exact ⟨_, rfl, HR.out, Below.refl _ _, rfl⟩
  ·generalize g 4 = y4 at hL ⊢
   obtain ⟨rfl, _⟩ := hL
   have HR := hid hR
   clear hR
   go_wp2
   exact ⟨_, rfl, HR.out, Below.refl _ _, rfl⟩
  ·generalize g 5 = y5 at hL ⊢
   obtain ⟨rfl, _⟩ := hL
   have HR := hid hR
   clear hR
   go_wp2_with fail
   refine (r3one cd a3 (HA52.out.below HR.out.be) (by omega)).mono ?_
   rintro e w1 ⟨a1, c1, l1, rfl, p1, p2, p3, p4, p5⟩
   have HP2 := hid p2
   have HP3 := hid p3
   have HP5 := hid p5
   clear p2 p3 p5 q0 q1 q2 q3 q4 q5
   go_wp2
   exact ⟨_, rfl, ⟨Nat.le_trans hB HP5.out.size, HR.out.be.trans (HP5.out.mono hB)⟩, HP5.out, a1, c1, l1, rfl, p1, HP2, HP3, p4⟩
  ·generalize g 3 = y3 at hL ⊢
   generalize g 6 = y6 at hL ⊢
   obtain ⟨rfl, ⟨a1, c1, l1, rfl, p1, HP2, HP3, p4⟩, _, _⟩ := hL
   have HR := hid hR
   clear hR
   go_wp2_with fail
   refine (r1Mul dn c1 (HB42.out.below HR.out.be) HP2.out rfl HP3.out (by omega)).mono ?_
   rintro e w1 ⟨a2, c2, rfl, g1, g2, g3, _⟩
   have HG2 := hid g2
   have HG3 := hid g3
   clear g2 g3 q0 q1 q2 q3 q4 q5
   go_wp2
   exact ⟨_, rfl, ⟨Nat.le_trans hB HG3.out.size, HR.out.be.trans (HG3.out.mono hB)⟩, HG3.out, a2, c2, rfl, g1, HG2⟩
  ·generalize g 1 = y1 at hL ⊢
   generalize g 7 = y7 at hL ⊢
   obtain ⟨rfl, ⟨a2, c2, rfl, g1, HG2⟩, _⟩ := hL
   have HR := hid hR
   clear hR
   go_wp2
   exact ⟨_, rfl, HR.out, Below.refl _ _, a2, c2, rfl, g1, HG2⟩
  ·clear hL
   have HR := hid hR
   clear hR
   go_wp2
   exact ⟨_, rfl, HR.out.alloc _, (Below.refl V.heap.size V).alloc (Nat.le_refl _) _, V.heap.size, hB, rfl, Box2.alloc _ _ _ _, NoInt.alloc V _ _ (by simp)⟩
 intro ops g W3 hR hL
 simp only [List.dropLast, List.getLastD_cons, List.getLastD_nil, fillFrom, Act.put, List.length_cons, List.length_nil, Nat.reduceAdd, LaidAll] at hL ⊢
 have hB2 := hR.base
 have HV := hL.1.2
 have HP := hL.2
 simp only [prG] at HV HP
 clear hL
 generalize g 8 = yv at HV ⊢
 generalize g 9 = yp at HP ⊢
 obtain ⟨ak2, ck2, rfl, g12, HG22⟩ := HV
 obtain ⟨gp2, hgp2, rfl, hbx, hno⟩ := HP
 have HBX2 := hid hbx
 have HNO2 := hid hno
 obtain ⟨e0, e1, ef, elt⟩ := hbx
 have HR2 := hid hR
 clear hR hno
 go_upto_region 3 with fail
 have hbw := below_store2 (p := .bool y.neg) (q := .slice ak2 (limbs (lval y.num * underN x.den)).length ck2) HR2.out.be hgp2
 have hb2 := HBX2.out.store (.bool y.neg) (.slice ak2 (limbs (lval y.num * underN x.den)).length ck2)
 have hu2 := HG22.out.store2 HNO2.out y.neg ak2 (limbs (lval y.num * underN x.den)).length ck2
 generalize (W3.setCell ⟨gp2, 0, none⟩ (.bool y.neg)).setCell ⟨gp2, 1, none⟩ (.slice ak2 (limbs (lval y.num * underN x.den)).length ck2) = W4 at *
 obtain ⟨x0, x1, _, xlt⟩ := HX2.out.below hbw
 obtain ⟨y0, y1, _, ylt⟩ := hb2
 have HF4 := hid (HF2.out.below hbw)
 have HA54 := hid (HA52.out.below hbw)
 have HB54 := hid (HB52.out.below hbw)
 have hi1 : IntV W4 (.agg #[.bool x.neg, .slice ak1 (limbs (lval x.num * underN y.den)).length ck1]) x.neg (lval x.num * underN y.den) (limbs (lval x.num * underN y.den)).length := ⟨ak1, ck1, _, rfl, g11, HU2.out.below hbw, lval_limbs _, Nat.le_refl _⟩
 have hi2 : IntV W4 (.agg #[.bool y.neg, .slice ak2 (limbs (lval y.num * underN x.den)).length ck2]) y.neg (lval y.num * underN x.den) (limbs (lval y.num * underN x.den)).length := ⟨ak2, ck2, _, rfl, g12, hu2, lval_limbs _, Nat.le_refl _⟩
 have hl1 : (limbs (lval x.num * underN y.den)).length <= 1048575 := Nat.le_trans (mul_len rfl (lval_limbs _) (Nat.le_refl _) (Nat.le_refl _) HNUMx.out (lim_limbs _)) (by have := underLen y.den HDENy.out; omega)
 have hl2 : (limbs (lval y.num * underN x.den)).length <= 1048575 := Nat.le_trans (mul_len rfl (lval_limbs _) (Nat.le_refl _) (Nat.le_refl _) HNUMy.out (lim_limbs _)) (by have := underLen x.den HDENx.out; omega)
 have hAd := r2Add hi1 hi2 (by omega) (by omega)
 have HAd := hid hAd
 have HQ : Hid (ratL (ratOf x + ratOf y) = quotN (decide (sgn x.neg (lval x.num * underN y.den) + sgn y.neg (lval y.num * underN x.den) < 0)) (sgn x.neg (lval x.num * underN y.den) + sgn y.neg (lval y.num * underN x.den)).natAbs (underN x.den * underN y.den)) := by
  unfold Hid
  rw [quotN_ratL _ _ (Nat.mul_pos (underN_pos _) (underN_pos _)), sgn_of_int, addQ _ _ _ _ (underN_pos _) (underN_pos _)]
  rfl
 have hlz : (limbs (sgn x.neg (lval x.num * underN y.den) + sgn y.neg (lval y.num * underN x.den)).natAbs).length <= 1048576 := by
  refine Nat.le_trans (limbs_len_mono (b := lval (limbs (lval x.num * underN y.den)) + lval (limbs (lval y.num * underN x.den))) ?_) (add_len (lim_limbs _) (lim_limbs _) hl1 hl2)
  rw [lval_limbs, lval_limbs]
  generalize lval x.num * underN y.den = p
  generalize lval y.num * underN x.den = q
  cases x.neg <;> cases y.neg <;> simp [sgn] <;> omega
 generalize sgn x.neg (lval x.num * underN y.den) + sgn y.neg (lval y.num * underN x.den) = z at *
 clear hbw hu2 HX2 HU2 HF2 HA52 HB42 HB52 HBX2 HNO2 HR2 HG22 e0 e1 ef elt hi1 hi2 hl1 hl2 hAd hgp2 hB2
 go_wp2_with fail
 refine HAd.out.mono ?_
 rintro e W5 ⟨v5, rfl, ⟨a5', c5, rfl, f1, f2⟩, hb5⟩
 have F2 := hid f2
 have HF5 := hid (HF4.out.below hb5)
 have HA55 := hid (HA54.out.below hb5)
 have HB55 := hid (HB54.out.below hb5)
 clear f2 hb5 HAd HF4 HA54 HB54 x0 x1 xlt y0 y1 ylt
 generalize hzb : decide (z < 0) = zb at *
 generalize hzn : z.natAbs = zn at *
 clear hzb hzn
 go_upto_region 4 with fail
 have hal : Below W5.heap.size W5 (W5.alloc (.cells #[.bool zb, .slice a5' (limbs zn).length c5] 76)) := (Below.refl _ _).alloc (Nat.le_refl _) _
 have hbx := Box2.alloc W5 (.bool zb) (.slice a5' (limbs zn).length c5) 76
 have HGS := hid (HF5.out.c.lt)
 generalize hgs : W5.heap.size = gs at *
 have hgs5 : W5.heap.size <= gs := by omega
 generalize W5.alloc (.cells #[.bool zb, .slice a5' (limbs zn).length c5] 76) = W6 at *
 rw [<- hgs] at hal
 have HF6 := hid (HF5.out.below hal)
 have HA56 := hid (HA55.out.below hal)
 have HB56 := hid (HB55.out.below hal)
 have F26 := hid (F2.out.below hal)
 have HS6 := hid hbx
 have xbl : Below W6.heap.size W6 W6.drew := (Below.refl _ _).drew
 have tok2 : True := trivial
 have HDp := hid (Nat.mul_pos (underN_pos x.den) (underN_pos y.den))
 clear hal hbx hgs hgs5 HF5 HA55 HB55 F2
 go_region_held3 (fun w' => w'.cell? ⟨gs, 0, none⟩ = some (.bool zb) /\ w'.cell? ⟨gs, 1, none⟩ = some (.slice a5' (limbs zn).length c5) /\ w'.cell? ⟨w.heap.size, 2, none⟩ = some (.slice ad x.den.length cd) /\ w'.cell? ⟨w.heap.size + 1, 2, none⟩ = some (.slice bd y.den.length dd))
  (first | exact S4_keep HS6.out HF6.out ‹Below W6.heap.size W6 _› | exact S4_store HS6.out HF6.out hS5 HGS.out _ _ _)
  (first
   | (go_at_call 44; have _t := tok2; clear tok2; have hS := ‹Below W6.heap.size W6 _›; refine (r3one cd a3 (HA56.out.below hS) (by omega)).mono ?_; rintro e w2 ⟨a2', c2, l2, rfl, p1, p2, p3, p4, p5⟩
      have hS2 := hS.trans (p5.mono hS.size); have P2 := hid p2; have P3 := hid p3; clear p2 p3)
   | (go_at_call 44; have hS := ‹Below W6.heap.size W6 _›; refine (r3one dd b3 (HB56.out.below hS) (by omega)).mono ?_; rintro e w3 ⟨a3', c3, l3, rfl, q1, q2, q3, q4, q5⟩
      have hS3 := hS.trans (q5.mono hS.size); have P2b := hid (P2.out.below q5); have Q2 := hid q2; have Q3 := hid q3; clear q2 q3)
   | (go_at_call 43; have hS := ‹Below W6.heap.size W6 _›; refine (r1Mul c2 c3 P2b.out Q2.out P3.out Q3.out (by omega)).mono ?_; rintro e w4 ⟨a4, c4, rfl, t1, t2, t3, _⟩
      have hS4 := hS.trans (t3.mono hS.size); have T2 := hid t2; clear t2
      have hdl : (limbs (underN x.den * underN y.den)).length <= 2097152 := Nat.le_trans (mul_len P3.out Q3.out p4 q4 P2b.out.lim Q2.out.lim) (by omega))
   | (go_at_call 46; have hS := ‹Below W6.heap.size W6 _›; refine (r3quot zb c5 c4 f1 t1 (F26.out.below hS) T2.out (lval_limbs _) (lval_limbs _) (by omega) hdl HDp.out).mono ?_
      rintro e w5 ⟨v5, rfl, ⟨bn', bd', m1, m2, rfl, k3, k4, k5, k6⟩, k2⟩
      have hS5 := hS.trans (k2.mono hS.size)
      obtain ⟨r0, r1, r2, rf, rlt⟩ := HF6.out.c.below hS5
      have hN5 := hid (HF6.out.nc.below hS5 HF6.out.c.lt)
      have K5 := hid k5
      have K6 := hid k6
      have hB5 := hid (HF6.out.bl.trans (hS5.mono (by have := HF6.out.a.lt; omega)))))
 generalize quotN zb zn (underN x.den * underN y.den) = R at *
 go_wp2
 exact bodyPost_ret (v := .agg #[.bool R.neg, .slice bn' R.num.length m1, .slice bd' R.den.length m2]) (by simp [results, Tryz.results22, go_sem, r0, r1, r2]) rfl ⟨_, rfl, by rw [HQ.out]; exact RatV.store hN5.out k3 k4 K5.out K6.out, below_store3 hB5.out (by omega) _ _ _⟩
end Go.Proofs.YtoppijdedkdjeaaGreat

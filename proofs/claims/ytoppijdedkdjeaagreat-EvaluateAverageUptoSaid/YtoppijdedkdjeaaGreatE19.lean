/-
  Contracts of the functions that the statement reaches: RefJ, RefK, RefL, RefM, RefN, RefO, RefP, RefQ, RefR, RefS, RefT, RKB.
-/
import Derived.Test.YtoppijdedkdjeaaGreatE17
import Derived.Test.YtoppijdedkdjeaaGreatE18
set_option linter.unusedVariables false
set_option linter.unusedSimpArgs false
set_option linter.constructorNameAsVariable false
set_option linter.deprecated false
set_option maxRecDepth 100000
set_option maxHeartbeats 3200000
namespace Go.Proofs.YtoppijdedkdjeaaGreat
open Go.RowKit
open Go.Lib (hid)
structure IntC (w : World) (v : Value) (z : Int) : Prop where
 ex : ∃ (a : Option Addr) (c : Nat), v = .agg #[.bool (decide (z < 0)), .slice a (limbs z.natAbs).length c] /\ (limbs z.natAbs).length <= c /\ U32s w a (limbs z.natAbs)
theorem IntC.below {w w' : World} {v : Value} {z : Int} (h : IntC w v z) (hb : Below w.heap.size w w') : IntC w' v z := by
 obtain ⟨a, c, h1, h2, h3⟩ := h.ex
 exact ⟨a, c, h1, h2, h3.below hb⟩
theorem IntC.v {w : World} {v : Value} {z : Int} (h : IntC w v z) : IntV w v (decide (z < 0)) z.natAbs (limbs z.natAbs).length := by
 obtain ⟨a, c, h1, h2, h3⟩ := h.ex
 exact ⟨a, c, limbs z.natAbs, h1, h2, h3, lval_limbs _, Nat.le_refl _⟩
def RetZ (w : World) (z : Int) (e : Ending) (w' : World) : Prop := ∃ v, e = .returned v /\ IntC w' v z /\ Below w.heap.size w w'
theorem sgn_neg_iff (neg : Bool) (n : Nat) : decide (sgn neg n < 0) = (neg && decide (n ≠ 0)) := by
 cases neg
 ·simp [sgn]
 ·by_cases h : n = 0
  ·simp [sgn, h]
  ·simp [sgn, h]; omega
theorem IntC.mk' {w : World} {a : Option Addr} {c n : Nat} {neg : Bool} (h1 : (limbs n).length <= c) (h2 : U32s w a (limbs n)) : IntC w (.agg #[.bool (neg && decide (n ≠ 0)), .slice a (limbs n).length c]) (sgn neg n) :=
 ⟨a, c, by rw [sgn_neg_iff, sgn_natAbs], by rw [sgn_natAbs]; exact h1, by rw [sgn_natAbs]; exact h2⟩
theorem r2Make {w : World} {a : Option Addr} {l : List Nat} (neg : Bool) {n : Nat} (c : Nat) (hc : l.length <= c) (h : U32s w a l) (hx : lval l = n) (hr : l.length <= 17592186044416) :
  Calls Tryz.prog 84 #[.bool neg, .slice a l.length c] w (RetZ w (sgn neg n)) := by
 have hB0 : Below w.heap.size w (w.alloc (.cells #[.bool false, .slice none 0 0] 76)) := (Below.refl _ _).alloc (Nat.le_refl _) _
 have hM := r1Make c hc (h.below hB0) (by omega)
 rw [hx] at hM
 have HM := hid hM
 have hR := Box2.alloc w (.bool false) (.slice none 0 0) 76
 have hN := NoInt.alloc w #[.bool false, .slice none 0 0] 76 (by simp)
 have HB := hid hB0
 have HR := hid hR
 have HN := hid hN
 clear h hx hB0 hR hN hM
 go_enter Tryz.func84, Tryz.ntmps84
 go_wp2_with fail
 refine HM.out.mono ?_
 rintro e w1 ⟨a1, c1, rfl, h1, h2, hb, _⟩
 obtain ⟨r0, r1, rf, rlt⟩ := HR.out.below hb
 have HN1 := hid (HN.out.below hb (by simp))
 have HB1 := hid (HB.out.trans (hb.mono HB.out.size))
 have H2 := hid h2
 clear HM HR HN HB h2 hb
 by_cases hn : n = 0
 ·subst hn
  have hll : (limbs 0).length = 0 := by rw [limbs_zero]; rfl
  have hs : sgn neg 0 = 0 := by cases neg <;> rfl
  rw [hs]
  rw [limbs_zero] at *
  clear hs hll
  have HC : Hid (∀ w', IntC w' (.agg #[.bool false, .slice a1 0 c1]) 0) := fun w' => ⟨a1, c1, by simp [limbs_zero], by simp [limbs_zero], by simp [limbs_zero]; exact U32s.nil _ _⟩
  cases neg <;>
  ·go_wp2
   have hbf := (HB1.out.setCell (p := ⟨w.heap.size, 0, none⟩) (Nat.le_refl _) (.bool false)).setCell (p := ⟨w.heap.size, 1, none⟩) (Nat.le_refl _) (.slice a1 0 c1)
   exact bodyPost_ret (v := .agg #[.bool false, .slice a1 0 c1]) (by simp [results, Tryz.results84, go_sem, r0, r1]) rfl ⟨_, rfl, HC.out _, hbf⟩
 ·have hp := limbs_pos_iff.2 (Nat.pos_of_ne_zero hn)
  have HDn := hid (decide_eq_true hn)
  have hd : decide (0 < (limbs n).length) = true := decide_eq_true hp
  have HC : Hid (∀ w' : World, U32s w' a1 (limbs n) -> IntC w' (.agg #[.bool neg, .slice a1 (limbs n).length c1]) (sgn neg n)) := fun w' h => by
   have := IntC.mk' (neg := neg) h1 h
   rwa [HDn.out, Bool.and_true] at this
  clear hn
  cases neg <;>
  ·go_wp2
   have hU : ∀ B : Bool, U32s ((w1.setCell ⟨w.heap.size, 0, none⟩ (.bool B)).setCell ⟨w.heap.size, 1, none⟩ (.slice a1 (limbs n).length c1)) a1 (limbs n) := fun B => (H2.out.setCell HN1.out _ _).setCell (HN1.out.setCell _ _ (by simp)) _ _
   have hbf := fun B : Bool => (HB1.out.setCell (p := ⟨w.heap.size, 0, none⟩) (Nat.le_refl _) (.bool B)).setCell (p := ⟨w.heap.size, 1, none⟩) (Nat.le_refl _) (.slice a1 (limbs n).length c1)
   first
    | exact bodyPost_ret (v := .agg #[.bool false, .slice a1 (limbs n).length c1]) (by simp [results, Tryz.results84, go_sem, r0, r1]) rfl ⟨_, rfl, HC.out _ (hU _), hbf _⟩
    | exact bodyPost_ret (v := .agg #[.bool true, .slice a1 (limbs n).length c1]) (by simp [results, Tryz.results84, go_sem, r0, r1]) rfl ⟨_, rfl, HC.out _ (hU _), hbf _⟩
theorem neg_u64 {x : Int} (h1 : -9223372036854775808 <= x) (h2 : x < 0) : IntKind.u64.wrap (-IntKind.u64.wrap x) = ((x.natAbs : Nat) : Int) := by
 rw [IntKind.wrap_u64, IntKind.wrap_u64]; omega
theorem limbs_len64 {n : Nat} (h : n < 18446744073709551616) : (limbs n).length <= 2 := limbs_len_le (Nat.lt_of_lt_of_le h (by decide))
theorem r2Of (w : World) (x : Int) (h1 : -9223372036854775808 <= x) (h2 : x <= 9223372036854775807) :
  Calls Tryz.prog 49 #[.int .i64 x] w (RetZ w x) := by
 have hR := Box2.alloc w (.bool false) (.slice none 0 0) 76
 have hN := NoInt.alloc w #[.bool false, .slice none 0 0] 76 (by simp)
 have HR := hid hR
 have HN := hid hN
 clear hR hN
 by_cases hx : x < 0
 ·have hO := fun wv => r1Of x.natAbs (by omega) wv
  rw [<- neg_u64 h1 hx] at hO
  have HO := hid hO
  have HX : Hid (sgn true x.natAbs = x) := by unfold Hid sgn; simp; omega
  have hlen := limbs_len64 (n := x.natAbs) (by omega)
  clear hO
  go_enter Tryz.func49, Tryz.ntmps49
  go_wp2_with fail
  refine (HO.out _).mono ?_
  rintro e w1 ⟨a1, c1, rfl, g1, g2, g3, _⟩
  have hM := r2Make true c1 g1 g2 (lval_limbs _) (by omega)
  rw [HX.out] at hM
  have HM := hid hM
  have HB := hid (((Below.refl _ w).alloc (Nat.le_refl _) (.cells #[.bool false, .slice none 0 0] 76)).trans (g3.mono (by simp)))
  have HR1 := hid (HR.out.below g3)
  have HN1 := hid (HN.out.below g3 (by simp))
  clear HO hM g2 g3 HR HN
  go_wp2_with fail
  refine HM.out.mono ?_
  rintro e w2 ⟨v2, rfl, ⟨a2, c2, rfl, k1, k2⟩, hb2⟩
  obtain ⟨r0, r1, rf, rlt⟩ := HR1.out.below hb2
  have HN2 := hid (HN1.out.below hb2 HR1.out.lt)
  have HB2 := hid (HB.out.trans (hb2.mono HB.out.size))
  have K2 := hid k2
  clear HM k2 hb2 HR1 HN1 HB
  generalize hB : decide (x < 0) = B at *
  have HBB := hid hB
  generalize hL : limbs x.natAbs = L at *
  have HLL := hid hL
  clear hB hL HX
  go_wp2
  have hU : U32s ((w2.setCell ⟨w.heap.size, 0, none⟩ (.bool B)).setCell ⟨w.heap.size, 1, none⟩ (.slice a2 L.length c2)) a2 L := (K2.out.setCell HN2.out _ _).setCell (HN2.out.setCell _ _ (by simp)) _ _
  have hbf := (HB2.out.setCell (p := ⟨w.heap.size, 0, none⟩) (Nat.le_refl _) (.bool B)).setCell (p := ⟨w.heap.size, 1, none⟩) (Nat.le_refl _) (.slice a2 L.length c2)
  exact bodyPost_ret (v := .agg #[.bool B, .slice a2 L.length c2]) (by simp [results, Tryz.results49, go_sem, r0, r1]) rfl ⟨_, rfl, ⟨a2, c2, by rw [HBB.out, HLL.out], by rw [HLL.out]; exact k1, by rw [HLL.out]; exact hU⟩, hbf⟩
 ·obtain ⟨n, rfl⟩ : ∃ n : Nat, x = (n : Int) := ⟨x.toNat, by omega⟩
  have HO := hid (fun wv => r1Of n (by omega) wv)
  have HX : Hid (sgn false n = (n : Int)) := rfl
  have hlen := limbs_len64 (n := n) (by omega)
  go_enter Tryz.func49, Tryz.ntmps49
  go_wp2_with fail
  refine (HO.out _).mono ?_
  rintro e w1 ⟨a1, c1, rfl, g1, g2, g3, _⟩
  have hM := r2Make false c1 g1 g2 (lval_limbs _) (by omega)
  rw [HX.out] at hM
  have HM := hid hM
  have HB := hid (((Below.refl _ w).alloc (Nat.le_refl _) (.cells #[.bool false, .slice none 0 0] 76)).trans (g3.mono (by simp)))
  have HR1 := hid (HR.out.below g3)
  have HN1 := hid (HN.out.below g3 (by simp))
  clear HO hM g2 g3 HR HN
  go_wp2_with fail
  refine HM.out.mono ?_
  rintro e w2 ⟨v2, rfl, ⟨a2, c2, rfl, k1, k2⟩, hb2⟩
  obtain ⟨r0, r1, rf, rlt⟩ := HR1.out.below hb2
  have HN2 := hid (HN1.out.below hb2 HR1.out.lt)
  have HB2 := hid (HB.out.trans (hb2.mono HB.out.size))
  have K2 := hid k2
  clear HM k2 hb2 HR1 HN1 HB
  generalize hB : decide ((n : Int) < 0) = B at *
  have HBB := hid hB
  generalize hL : limbs (n : Int).natAbs = L at *
  have HLL := hid hL
  clear hB hL HX
  go_wp2
  have hU : U32s ((w2.setCell ⟨w.heap.size, 0, none⟩ (.bool B)).setCell ⟨w.heap.size, 1, none⟩ (.slice a2 L.length c2)) a2 L := (K2.out.setCell HN2.out _ _).setCell (HN2.out.setCell _ _ (by simp)) _ _
  have hbf := (HB2.out.setCell (p := ⟨w.heap.size, 0, none⟩) (Nat.le_refl _) (.bool B)).setCell (p := ⟨w.heap.size, 1, none⟩) (Nat.le_refl _) (.slice a2 L.length c2)
  exact bodyPost_ret (v := .agg #[.bool B, .slice a2 L.length c2]) (by simp [results, Tryz.results49, go_sem, r0, r1]) rfl ⟨_, rfl, ⟨a2, c2, by rw [HBB.out, HLL.out], by rw [HLL.out]; exact k1, by rw [HLL.out]; exact hU⟩, hbf⟩
theorem r2Sign {w : World} {v : Value} {neg : Bool} {n k : Nat} (h : IntV w v neg n k) (hr : k <= 17592186044416) :
  Calls Tryz.prog 89 #[v] w fun e w' => e = .returned (.int .i64 (signZ neg n)) /\ Below w.heap.size w w' := by
 obtain ⟨a, c, l, rfl, h1, h2, h3, h4⟩ := h.ex
 have hB0 : Below w.heap.size w (w.alloc (.cells #[.bool neg, .slice a l.length c] 76)) := (Below.refl _ _).alloc (Nat.le_refl _) _
 have HM := hid (r2Make neg c h1 (h2.below hB0) h3 (by omega))
 have HB := hid hB0
 have hR := Box2.alloc w (.bool neg) (.slice a l.length c) 76
 have HR := hid hR
 have hl := h2.len
 clear h h2 hB0 hR h3
 go_enter Tryz.func89, Tryz.ntmps89
 go_wp2_with fail
 refine HM.out.mono ?_
 rintro e w1 ⟨v1, rfl, ⟨a1, c1, rfl, g1, g2⟩, hb⟩
 obtain ⟨r0, r1, rf, rlt⟩ := HR.out.below hb
 have f0 := rf 0
 have f1 := rf 1
 have HB1 := hid (HB.out.trans (hb.mono HB.out.size))
 rw [sgn_natAbs, sgn_neg_iff]
 clear HM HR HB hb g2 rf
 by_cases hn : n = 0
 ·subst hn
  have HS : Hid (signZ neg 0 = 0) := rfl
  rw [limbs_zero] at *
  go_wp2
  go_ret
  exact ⟨ret_int HS.out.symm, (HB1.out.setCell (Nat.le_refl _) _).setCell (Nat.le_refl _) _⟩
 ·have hp := limbs_pos_iff.2 (Nat.pos_of_ne_zero hn)
  have HS : Hid (signZ neg n = if neg then -1 else 1) := by unfold Hid signZ; rw [if_neg hn]
  have hz : (((limbs n).length : Int) == 0) = false := by rw [beq_eq_false_iff_ne]; omega
  have hn1 := decide_eq_true hn
  rw [sgn_natAbs] at g1
  cases neg <;>
  ·go_wp2
   go_ret
   exact ⟨ret_int (by rw [HS.out]; rfl), (HB1.out.setCell (Nat.le_refl _) _).setCell (Nat.le_refl _) _⟩
theorem r3one {w : World} {a : Option Addr} {l : List Nat} (c : Nat) (hc : l.length <= c) (h : U32s w a l) (hr : l.length <= 17592186044416) : Calls Tryz.prog 44 #[.slice a l.length c] w (RetU w (underN l) (l.length + 1)) := by
 have hM := hid (r1Make c hc h (by omega))
 have hle := limbs_len_of_lval h.lim
 have hl := h.len
 clear h
 go_enter Tryz.func44, Tryz.ntmps44
 go_wp2_with fail
 refine hM.out.mono ?_
 rintro e w1 ⟨a1, c1, rfl, h1, h2, h3, _⟩
 have H2 := hid h2
 have H3 := hid h3
 clear hM h2 h3
 by_cases hn : lval l = 0
 ·have HU : Hid (underN l = 1) := if_pos hn
  rw [hn, limbs_zero] at *
  clear hn
  go_wp2
  go_ret
  exact ⟨_, 1, [1], rfl, Nat.le_refl _, U32s.one w1 (b := 1) (by omega) _, by rw [HU.out]; rfl, by simp, H3.out.alloc H3.out.size _⟩
 ·have HU : Hid (underN l = lval l) := if_neg hn
  have hp := limbs_pos_iff.2 (Nat.pos_of_ne_zero hn)
  have hz : (((limbs (lval l)).length : Int) == 0) = false := by rw [beq_eq_false_iff_ne]; omega
  clear hn
  go_wp2
  go_ret
  exact ⟨a1, c1, limbs (lval l), rfl, h1, H2.out, by rw [HU.out, lval_limbs], by omega, H3.out⟩
theorem RatV.store {w : World} {g : Nat} {x : RatL} {bn bd : Option Addr} {m1 m2 : Nat} (hN : NoInt w g) (h1 : x.num.length <= m1) (h2 : x.den.length <= m2) (k5 : U32s w bn x.num) (k6 : U32s w bd x.den) :
  RatV (((w.setCell ⟨g, 0, none⟩ (.bool x.neg)).setCell ⟨g, 1, none⟩ (.slice bn x.num.length m1)).setCell ⟨g, 2, none⟩ (.slice bd x.den.length m2)) (.agg #[.bool x.neg, .slice bn x.num.length m1, .slice bd x.den.length m2]) x := by
 refine ⟨bn, bd, m1, m2, rfl, h1, h2, ?_, ?_⟩
 ·exact ((k5.setCell hN _ _).setCell (hN.setCell _ _ (by simp)) _ _).setCell ((hN.setCell _ _ (by simp)).setCell _ _ (by simp)) _ _
 ·exact ((k6.setCell hN _ _).setCell (hN.setCell _ _ (by simp)) _ _).setCell ((hN.setCell _ _ (by simp)).setCell _ _ (by simp)) _ _
theorem below_store3 {n g : Nat} {w w' : World} (h : Below n w w') (hg : n <= g) (p q r : Value) : Below n w (((w'.setCell ⟨g, 0, none⟩ p).setCell ⟨g, 1, none⟩ q).setCell ⟨g, 2, none⟩ r) :=
 ((h.setCell (p := ⟨g, 0, none⟩) hg p).setCell (p := ⟨g, 1, none⟩) hg q).setCell (p := ⟨g, 2, none⟩) hg r
theorem limbs_one : limbs 1 = [1] := by rw [limbs_pos (by omega), limbs_zero]
theorem r3quot {w : World} {a b : Option Addr} {l m : List Nat} (neg : Bool) (c e : Nat) (hc : l.length <= c) (he : m.length <= e) (h : U32s w a l) (g : U32s w b m) {n d : Nat} (hx : lval l = n) (hy : lval m = d) (hr : l.length <= 2097152) (hr2 : m.length <= 2097152) (hd : 0 < d) :
  Calls Tryz.prog 46 #[.bool neg, .slice a l.length c, .slice b m.length e] w (RetR w (quotN neg n d)) := by
 have hR := Box3.alloc w (.bool false) (.slice none 0 0) (.slice none 0 0) 37
 have hN := NoInt.alloc w #[.bool false, .slice none 0 0, .slice none 0 0] 37 (by simp)
 have hB0 : Below w.heap.size w (w.alloc (zerO 37)) := (Below.refl _ _).alloc (Nat.le_refl _) _
 have HG := hid (r1Gcd c e hc he (h.below hB0) (g.below hB0) hx hy hr hr2)
 have hgp : 0 < Nat.gcd n d := Nat.gcd_pos_of_pos_right n hd
 have hgl : (limbs (Nat.gcd n d)).length <= m.length := by
  refine Nat.le_trans (limbs_len_mono (Nat.gcd_le_right n hd)) ?_
  rw [<- hy]; exact limbs_len_of_lval g.lim
 have hD1 := fun wv (hu : U32s wv a l) a1 c1 hc1 (hg : U32s wv a1 (limbs (Nat.gcd n d))) => r1DivMod c c1 hc hc1 hu hg hx (lval_limbs _) hr (by omega) hgp
 have hD2 := fun wv (hu : U32s wv b m) a1 c1 hc1 (hg : U32s wv a1 (limbs (Nat.gcd n d))) => r1DivMod e c1 he hc1 hu hg hy (lval_limbs _) hr2 (by omega) hgp
 have HD1 := hid hD1
 have HD2 := hid hD2
 have HR := hid hR
 have HN := hid hN
 have HB0 := hid hB0
 have HH := hid (h.below hB0)
 have HGG := hid (g.below hB0)
 have HQ : Hid (quotN neg n d = ⟨neg && decide (0 < (limbs (n / Nat.gcd n d)).length), limbs (n / Nat.gcd n d), if d / Nat.gcd n d = 1 then [] else limbs (d / Nat.gcd n d)⟩) := by
  unfold Hid quotN
  congr 2
  rw [decide_eq_decide, limbs_pos_iff]
  obtain ⟨k, hk⟩ := Nat.gcd_dvd_left n d
  generalize Nat.gcd n d = G at *
  subst hk
  rw [Nat.mul_div_cancel_left _ hgp]
  constructor
  ·intro h; exact Nat.pos_of_ne_zero (fun e => h (by rw [e, Nat.mul_zero]))
  ·intro h e
   rcases Nat.mul_eq_zero.1 e with h1 | h1 <;> omega
 have hdp : 0 < d / Nat.gcd n d := Nat.div_pos (Nat.gcd_le_right n hd) hgp
 clear h g hx hy hR hN hB0 hD1 hD2 hd
 generalize Nat.gcd n d = G at *
 go_enter Tryz.func46, Tryz.ntmps46
 go_wp2_with fail
 refine HG.out.mono ?_
 rintro ee w1 ⟨a1, c1, rfl, h1, h2, hb1⟩
 have D1 := hid (HD1.out w1 (HH.out.below hb1) a1 c1 h1 h2)
 have HG1 := hid (HGG.out.below hb1)
 have H2 := hid h2
 have HR1 := hid (HR.out.below hb1)
 have HN1 := hid (HN.out.below hb1 HR.out.lt)
 have HB1 := hid (HB0.out.trans (hb1.mono HB0.out.size))
 clear HG HH HGG h2 HR HN HB0 hb1 HD1
 go_wp2_with fail
 refine D1.out.mono ?_
 rintro ee w2 ⟨a2, c2, a2', c2', rfl, k1, k2, k3, k4, hb2⟩
 have D2 := hid (HD2.out w2 (HG1.out.below hb2) a1 c1 h1 (H2.out.below hb2))
 have K3 := hid k3
 have HR2 := hid (HR1.out.below hb2)
 have HN2 := hid (HN1.out.below hb2 HR1.out.lt)
 have HB2 := hid (HB1.out.trans (hb2.mono HB1.out.size))
 clear D1 HG1 H2 HR1 HN1 HB1 k3 k4 hb2 HD2
 go_wp2_with fail
 refine D2.out.mono ?_
 rintro ee w3 ⟨a3, c3, a3', c3', rfl, j1, j2, j3, j4, hb3⟩
 have K3' := hid (K3.out.below hb3)
 have J3 := hid j3
 obtain ⟨r0, r1, r2, rf, rlt⟩ := HR2.out.below hb3
 have HN3 := hid (HN2.out.below hb3 HR2.out.lt)
 have HB3 := hid (HB2.out.trans (hb3.mono HB2.out.size))
 have hj := hid j3
 clear D2 K3 HR2 HN2 HB2 j4 hb3
 generalize limbs (n / G) = L at *
 have hneg : ∀ B : Bool, B = (neg && decide (0 < L.length)) -> True := fun _ _ => trivial
 clear hneg
 by_cases h1 : d / G = 1
 ·have HQ1 := hid (HQ.out)
  rw [if_pos h1] at HQ1
  have hl1 : (limbs (d / G)).length = 1 := by rw [h1, limbs_one]; rfl
  obtain ⟨p1, o1, rfl, hp1, q1⟩ := j3.pick (show 0 < (limbs (d / G)).length by omega)
  have hdg : dig (limbs (d / G)) 0 = 1 := by rw [h1, limbs_one]; rfl
  rw [hdg, Nat.add_zero] at q1
  have hbe : ∀ B : Bool, Below w.heap.size w (((w3.setCell ⟨w.heap.size, 0, none⟩ (.bool B)).setCell ⟨w.heap.size, 1, none⟩ (.slice a2 L.length c2)).setCell ⟨w.heap.size, 2, none⟩ (.slice none 0 0)) := fun B => below_store3 HB3.out (Nat.le_refl _) _ _ _
  have hst := fun B : Bool => RatV.store (x := ⟨B, L, []⟩) (bd := none) (m2 := 0) HN3.out k1 (Nat.le_refl _) K3'.out (U32s.nil _ _)
  have HBE := hid hbe
  have HST := hid hst
  rw [hl1] at j1 ⊢
  clear hl1 hdg h1 j3 hbe hst
  cases hL : decide (0 < L.length)
  ·cases neg <;>
   ·go_wp2
    exact bodyPost_ret (v := .agg #[.bool false, .slice a2 L.length c2, .slice none 0 0]) (by simp [results, Tryz.results46, go_sem, r0, r1, r2]) rfl ⟨_, rfl, by rw [HQ1.out, hL]; exact HST.out false, HBE.out false⟩
  ·cases neg
   ·go_wp2
    exact bodyPost_ret (v := .agg #[.bool false, .slice a2 L.length c2, .slice none 0 0]) (by simp [results, Tryz.results46, go_sem, r0, r1, r2]) rfl ⟨_, rfl, by rw [HQ1.out, hL]; exact HST.out false, HBE.out false⟩
   ·go_wp2
    exact bodyPost_ret (v := .agg #[.bool true, .slice a2 L.length c2, .slice none 0 0]) (by simp [results, Tryz.results46, go_sem, r0, r1, r2]) rfl ⟨_, rfl, by rw [HQ1.out, hL]; exact HST.out true, HBE.out true⟩
 ·have HQ1 := hid (HQ.out)
  rw [if_neg h1] at HQ1
  have hbe : ∀ B : Bool, Below w.heap.size w (((w3.setCell ⟨w.heap.size, 0, none⟩ (.bool B)).setCell ⟨w.heap.size, 1, none⟩ (.slice a2 L.length c2)).setCell ⟨w.heap.size, 2, none⟩ (.slice a3 (limbs (d / G)).length c3)) := fun B => below_store3 HB3.out (Nat.le_refl _) _ _ _
  have hst := fun B : Bool => RatV.store (x := ⟨B, L, limbs (d / G)⟩) HN3.out k1 j1 K3'.out J3.out
  have HBE := hid hbe
  have HST := hid hst
  by_cases hl1 : (limbs (d / G)).length = 1
  ·obtain ⟨p1, o1, rfl, hp1, q1⟩ := j3.pick (show 0 < (limbs (d / G)).length by omega)
   have hd1 := limbs_len1 hl1
   have hne : ((dig (limbs (d / G)) 0 : Int) == 1) = false := by rw [beq_eq_false_iff_ne]; omega
   rw [Nat.add_zero] at q1
   generalize dig (limbs (d / G)) 0 = dg at *
   clear h1 j3 hbe hst hd1 hdp
   generalize hLd : limbs (d / G) = LD at *
   have hst1 := HST.out
   have hbe1 := HBE.out
   simp only [hl1] at hst1 hbe1
   have HST1 := hid hst1
   have HBE1 := hid hbe1
   rw [hl1] at j1 ⊢
   clear hLd hl1 hst1 hbe1
   cases hL : decide (0 < L.length)
   ·cases neg <;>
    ·go_wp2
     exact bodyPost_ret (v := .agg #[.bool false, .slice a2 L.length c2, .slice (some ⟨p1, o1, none⟩) 1 c3]) (by simp [results, Tryz.results46, go_sem, r0, r1, r2]) rfl ⟨_, rfl, by rw [HQ1.out, hL]; exact HST1.out false, HBE1.out false⟩
   ·cases neg
    ·go_wp2
     exact bodyPost_ret (v := .agg #[.bool false, .slice a2 L.length c2, .slice (some ⟨p1, o1, none⟩) 1 c3]) (by simp [results, Tryz.results46, go_sem, r0, r1, r2]) rfl ⟨_, rfl, by rw [HQ1.out, hL]; exact HST1.out false, HBE1.out false⟩
    ·go_wp2
     exact bodyPost_ret (v := .agg #[.bool true, .slice a2 L.length c2, .slice (some ⟨p1, o1, none⟩) 1 c3]) (by simp [results, Tryz.results46, go_sem, r0, r1, r2]) rfl ⟨_, rfl, by rw [HQ1.out, hL]; exact HST1.out true, HBE1.out true⟩
  ·have hne : (((limbs (d / G)).length : Int) == 1) = false := by rw [beq_eq_false_iff_ne]; omega
   clear h1 j3 hbe hst hdp hl1
   cases hL : decide (0 < L.length)
   ·cases neg <;>
    ·go_wp2
     exact bodyPost_ret (v := .agg #[.bool false, .slice a2 L.length c2, .slice a3 (limbs (d / G)).length c3]) (by simp [results, Tryz.results46, go_sem, r0, r1, r2]) rfl ⟨_, rfl, by rw [HQ1.out, hL]; exact HST.out false, HBE.out false⟩
   ·cases neg
    ·go_wp2
     exact bodyPost_ret (v := .agg #[.bool false, .slice a2 L.length c2, .slice a3 (limbs (d / G)).length c3]) (by simp [results, Tryz.results46, go_sem, r0, r1, r2]) rfl ⟨_, rfl, by rw [HQ1.out, hL]; exact HST.out false, HBE.out false⟩
    ·go_wp2
     exact bodyPost_ret (v := .agg #[.bool true, .slice a2 L.length c2, .slice a3 (limbs (d / G)).length c3]) (by simp [results, Tryz.results46, go_sem, r0, r1, r2]) rfl ⟨_, rfl, by rw [HQ1.out, hL]; exact HST.out true, HBE.out true⟩
theorem r3Canon {w : World} {v : Value} {x : RatL} (h : RatV w v x) (hr : RatLe x 1048576) : Calls Tryz.prog 58 #[v] w (RetR w (canonL x)) := by
 obtain ⟨an, ad, cn, cd, hv, h2, h3, h4, h5⟩ := h.ex
 obtain ⟨hr1, hr2⟩ := hr
 have hl1 := h4.len
 have hl2 := h5.len
 have H4 := hid h4
 have H5 := hid h5
 rw [hv]
 clear h h4 h5 hv
 go_enter Tryz.func58, Tryz.ntmps58
 go_wp2_with fail
 have hB0 : Below w.heap.size w ((w.alloc (ratO x an cn ad cd 37)).alloc (zerO 37)) :=
  ((Below.refl _ _).alloc (Nat.le_refl _) _).alloc (by simp) _
 have hX : Box3 ((w.alloc (ratO x an cn ad cd 37)).alloc (zerO 37)) w.heap.size (.bool x.neg) (.slice an x.num.length cn) (.slice ad x.den.length cd) :=
  (Box3.alloc w _ _ _ _).below ((Below.refl _ _).alloc (Nat.le_refl _) _)
 have hR : Box3 ((w.alloc (ratO x an cn ad cd 37)).alloc (zerO 37)) (w.heap.size + 1) (.bool false) (.slice none 0 0) (.slice none 0 0) := by
  have := Box3.alloc (w.alloc (ratO x an cn ad cd 37)) (.bool false) (.slice none 0 0) (.slice none 0 0) 37
  simpa using this
 have hN : NoInt ((w.alloc (ratO x an cn ad cd 37)).alloc (zerO 37)) (w.heap.size + 1) := by
  have := NoInt.alloc (w.alloc (ratO x an cn ad cd 37)) #[.bool false, .slice none 0 0, .slice none 0 0] 37 (by simp)
  simpa using this
 generalize (w.alloc (ratO x an cn ad cd 37)).alloc (zerO 37) = W at *
 have H52 := hid (H5.out.below hB0)
 have H42 := hid (H4.out.below hB0)
 obtain ⟨x0, x1, x2, xf, xlt⟩ := hX
 have HR := hid hR
 have HNo := hid hN
 have HB := hid hB0
 have xbl : Below W.heap.size W W.drew := (Below.refl _ _).drew
 clear hR hN hB0 xf H5 H4
 go_region_held3 (fun w' => w'.cell? ⟨w.heap.size, 0, none⟩ = some (.bool x.neg) /\ w'.cell? ⟨w.heap.size, 1, none⟩ = some (.slice an x.num.length cn) /\ w'.cell? ⟨w.heap.size, 2, none⟩ = some (.slice ad x.den.length cd))
  (first | exact S3_keep x0 x1 x2 xlt ‹Below W.heap.size W _› | go_keep)
  (first
   | (go_at_call 44; have hS := ‹Below W.heap.size W _›; refine (r3one cd h3 (H52.out.below hS) (by omega)).mono ?_; rintro e w1 ⟨a1, c1, l1, rfl, g1, g2, g3, g4, g5⟩
      have hS1 := hS.trans (g5.mono hS.size))
   | (go_at_call 46; have hS := ‹Below W.heap.size W _›; refine (r3quot x.neg cn c1 h2 g1 (H42.out.below hS) g2 rfl g3 (by omega) (by omega) (underN_pos _)).mono ?_
      rintro e w2 ⟨v2, rfl, ⟨bn, bd, m1, m2, rfl, k3, k4, k5, k6⟩, k2⟩
      have hS2 := hS.trans (k2.mono hS.size)
      obtain ⟨r0, r1, r2, rf, rlt⟩ := HR.out.below hS2
      have hN2 := hid (HNo.out.below hS2 HR.out.lt)
      have K5 := hid k5
      have K6 := hid k6
      have hB2 := hid (HB.out.trans (hS2.mono HB.out.size))))
 go_wp2
 exact bodyPost_ret (v := .agg #[.bool (canonL x).neg, .slice bn (canonL x).num.length m1, .slice bd (canonL x).den.length m2]) (by simp [results, Tryz.results58, go_sem, r0, r1, r2, canonL]) rfl ⟨_, rfl, RatV.store hN2.out k3 k4 K5.out K6.out, below_store3 hB2.out (Nat.le_succ _) _ _ _⟩
structure TwoR (w W : World) (g : Nat) (p q r s t u : Value) : Prop where
 a : Box3 W g p q r
 b : Box3 W (g + 1) s t u
 c : Box3 W (g + 1 + 1) (.bool false) (.slice none 0 0) (.slice none 0 0)
 nc : NoInt W (g + 1 + 1)
 bl : Below g w W
theorem TwoR.mk' (w : World) (p q r s t u : Value) (T : Nat) : TwoR w (((w.alloc (.cells #[p, q, r] T)).alloc (.cells #[s, t, u] T)).alloc (.cells #[.bool false, .slice none 0 0, .slice none 0 0] T)) w.heap.size p q r s t u := by
 have step : ∀ (W : World) (o : Obj), Below W.heap.size W (W.alloc o) := fun W o => (Below.refl _ _).alloc (Nat.le_refl _) _
 have s1 := step w (.cells #[p, q, r] T)
 have s2 := step (w.alloc (.cells #[p, q, r] T)) (.cells #[s, t, u] T)
 have s3 := step ((w.alloc (.cells #[p, q, r] T)).alloc (.cells #[s, t, u] T)) (.cells #[.bool false, .slice none 0 0, .slice none 0 0] T)
 have b1 := Box3.alloc w p q r T
 have b2 := Box3.alloc (w.alloc (.cells #[p, q, r] T)) s t u T
 have b3 := Box3.alloc ((w.alloc (.cells #[p, q, r] T)).alloc (.cells #[s, t, u] T)) (.bool false) (.slice none 0 0) (.slice none 0 0) T
 have n3 := NoInt.alloc ((w.alloc (.cells #[p, q, r] T)).alloc (.cells #[s, t, u] T)) #[.bool false, .slice none 0 0, .slice none 0 0] T (by simp)
 have b1' := (b1.below s2).below s3
 have b2' := b2.below s3
 have bl := (s1.trans (s2.mono (by simp))).trans (s3.mono (by simp; omega))
 simp only [World.size_alloc] at b2' b3 n3
 exact ⟨b1', b2', b3, n3, bl⟩
structure TwoI (w W : World) (g : Nat) (p q r s : Value) : Prop where
 a : Box2 W g p q
 b : Box2 W (g + 1) r s
 c : Box2 W (g + 1 + 1) (.bool false) (.slice none 0 0)
 nc : NoInt W (g + 1 + 1)
 bl : Below g w W
theorem TwoI.mk' (w : World) (p q r s : Value) (T : Nat) : TwoI w (((w.alloc (.cells #[p, q] T)).alloc (.cells #[r, s] T)).alloc (.cells #[.bool false, .slice none 0 0] T)) w.heap.size p q r s := by
 have step : ∀ (W : World) (o : Obj), Below W.heap.size W (W.alloc o) := fun W o => (Below.refl _ _).alloc (Nat.le_refl _) _
 have s1 := step w (.cells #[p, q] T)
 have s2 := step (w.alloc (.cells #[p, q] T)) (.cells #[r, s] T)
 have s3 := step ((w.alloc (.cells #[p, q] T)).alloc (.cells #[r, s] T)) (.cells #[.bool false, .slice none 0 0] T)
 have b1 := Box2.alloc w p q T
 have b2 := Box2.alloc (w.alloc (.cells #[p, q] T)) r s T
 have b3 := Box2.alloc ((w.alloc (.cells #[p, q] T)).alloc (.cells #[r, s] T)) (.bool false) (.slice none 0 0) T
 have n3 := NoInt.alloc ((w.alloc (.cells #[p, q] T)).alloc (.cells #[r, s] T)) #[.bool false, .slice none 0 0] T (by simp)
 have b1' := (b1.below s2).below s3
 have b2' := b2.below s3
 have bl := (s1.trans (s2.mono (by simp))).trans (s3.mono (by simp; omega))
 simp only [World.size_alloc] at b2' b3 n3
 exact ⟨b1', b2', b3, n3, bl⟩
theorem below_store2 {n g : Nat} {w w' : World} (h : Below n w w') (hg : n <= g) (p q : Value) : Below n w ((w'.setCell ⟨g, 0, none⟩ p).setCell ⟨g, 1, none⟩ q) :=
 (h.setCell (p := ⟨g, 0, none⟩) hg p).setCell (p := ⟨g, 1, none⟩) hg q
theorem add_len {l m : List Nat} {N : Nat} (hl : Lim l) (hm : Lim m) (h1 : l.length <= N) (h2 : m.length <= N) : (limbs (lval l + lval m)).length <= N + 1 := by
 refine limbs_len_le ?_
 have e1 := Nat.lt_of_lt_of_le (lval_lt hl) (Nat.pow_le_pow_right (show 0 < 4294967296 by omega) h1)
 have e2 := Nat.lt_of_lt_of_le (lval_lt hm) (Nat.pow_le_pow_right (show 0 < 4294967296 by omega) h2)
 rw [Nat.pow_succ]
 omega
theorem sgn_add_same (b : Bool) (x y : Nat) : sgn b (x + y) = sgn b x + sgn b y := by cases b <;> simp [sgn] <;> omega
theorem sgn_add_ge {a b : Bool} (h : a ≠ b) {x y : Nat} (hxy : y <= x) : sgn a (x - y) = sgn a x + sgn b y := by
 cases a <;> cases b <;> simp [sgn] at h ⊢ <;> omega
theorem sgn_add_lt {a b : Bool} (h : a ≠ b) {x y : Nat} (hxy : x < y) : sgn b (y - x) = sgn a x + sgn b y := by
 cases a <;> cases b <;> simp [sgn] at h ⊢ <;> omega
theorem TwoR.below {w W W' : World} {g : Nat} {p q r s t u : Value} (h : TwoR w W g p q r s t u) (hb : Below W.heap.size W W') : TwoR w W' g p q r s t u :=
 ⟨h.a.below hb, h.b.below hb, h.c.below hb, h.nc.below hb h.c.lt, h.bl.trans (hb.mono (by have := h.a.lt; omega))⟩
theorem sgn_of_int (z : Int) : sgn (decide (z < 0)) z.natAbs = z := by
 unfold sgn
 by_cases h : z < 0
 ·rw [decide_eq_true h]; simp; omega
 ·rw [decide_eq_false h]; simp; omega
theorem ratOf_zero {x : RatL} (h : ratOf x ≠ 0) : 0 < lval x.num := by
 rcases Nat.eq_zero_or_pos (lval x.num) with h0 | h0
 ·exfalso
  apply h
  unfold ratOf
  rw [h0]
  have : sgn x.neg 0 = 0 := by cases x.neg <;> rfl
  rw [this, Rat.zero_mkRat]
 ·exact h0
def RetRE (w : World) (x : RatL) (c : Int) (e : Ending) (w' : World) : Prop := ∃ v, e = .returned (.tuple #[v, .int .i64 c]) /\ RatV w' v x /\ Below w.heap.size w w'
theorem ratL_int (z : Int) : ratL (z : Rat) = ⟨decide (z < 0), limbs z.natAbs, []⟩ := by
 unfold ratL
 rw [Rat.num_intCast, Rat.den_intCast]
 rfl
theorem r3Of (w : World) (x : Int) (h1 : -9223372036854775808 <= x) (h2 : x <= 9223372036854775807) :
  Calls Tryz.prog 35 #[.int .i64 x] w (RetR w (ratL (x : Rat))) := by
 have hR := Box3.alloc w (.bool false) (.slice none 0 0) (.slice none 0 0) 37
 have hN := NoInt.alloc w #[.bool false, .slice none 0 0, .slice none 0 0] 37 (by simp)
 have hB0 : Below w.heap.size w (w.alloc (zerO 37)) := (Below.refl _ _).alloc (Nat.le_refl _) _
 have HO := hid (fun wv => r2Of wv x h1 h2)
 have HR := hid hR
 have HN := hid hN
 have HB := hid hB0
 have HQ := hid (ratL_int x)
 clear hR hN hB0
 go_enter Tryz.func35, Tryz.ntmps35
 go_wp2_with fail
 refine (HO.out _).mono ?_
 rintro e w1 ⟨v1, rfl, ⟨a1, c1, rfl, g1, g2⟩, hb⟩
 generalize hzb : decide (x < 0) = zb at *
 generalize hzn : limbs x.natAbs = zn at *
 have hal : Below w1.heap.size w1 (w1.alloc (.cells #[.bool zb, .slice a1 zn.length c1] 76)) := (Below.refl _ _).alloc (Nat.le_refl _) _
 obtain ⟨r0, r1, r2, rf, rlt⟩ := (HR.out.below hb).below hal
 have hN2 := hid ((HN.out.below hb HR.out.lt).below hal (HR.out.below hb).lt)
 have HB2 := hid (HB.out.trans ((hb.trans (hal.mono hb.size)).mono HB.out.size))
 have G2 := hid (g2.below hal)
 clear HO hb hal g2 HR HN HB hzb hzn
 go_wp2
 exact bodyPost_ret (v := .agg #[.bool zb, .slice a1 zn.length c1, .slice none 0 0]) (by simp [results, Tryz.results35, go_sem, r0, r1, r2]) rfl ⟨_, rfl, by rw [HQ.out]; exact RatV.store (x := ⟨zb, zn, []⟩) (bd := none) (m2 := 0) hN2.out g1 (Nat.le_refl _) G2.out (U32s.nil _ _), below_store3 HB2.out (Nat.le_refl _) _ _ _⟩
structure TwoIR (w W : World) (g : Nat) (p q r s : Value) : Prop where
 a : Box2 W g p q
 b : Box2 W (g + 1) r s
 c : Box3 W (g + 1 + 1) (.bool false) (.slice none 0 0) (.slice none 0 0)
 nc : NoInt W (g + 1 + 1)
 bl : Below g w W
theorem TwoIR.mk' (w : World) (p q r s : Value) (T T' : Nat) : TwoIR w (((w.alloc (.cells #[p, q] T)).alloc (.cells #[r, s] T)).alloc (.cells #[.bool false, .slice none 0 0, .slice none 0 0] T')) w.heap.size p q r s := by
 have step : ∀ (W : World) (o : Obj), Below W.heap.size W (W.alloc o) := fun W o => (Below.refl _ _).alloc (Nat.le_refl _) _
 have s1 := step w (.cells #[p, q] T)
 have s2 := step (w.alloc (.cells #[p, q] T)) (.cells #[r, s] T)
 have s3 := step ((w.alloc (.cells #[p, q] T)).alloc (.cells #[r, s] T)) (.cells #[.bool false, .slice none 0 0, .slice none 0 0] T')
 have b1 := Box2.alloc w p q T
 have b2 := Box2.alloc (w.alloc (.cells #[p, q] T)) r s T
 have b3 := Box3.alloc ((w.alloc (.cells #[p, q] T)).alloc (.cells #[r, s] T)) (.bool false) (.slice none 0 0) (.slice none 0 0) T'
 have n3 := NoInt.alloc ((w.alloc (.cells #[p, q] T)).alloc (.cells #[r, s] T)) #[.bool false, .slice none 0 0, .slice none 0 0] T' (by simp)
 have b1' := (b1.below s2).below s3
 have b2' := b2.below s3
 have bl := (s1.trans (s2.mono (by simp))).trans (s3.mono (by simp; omega))
 simp only [World.size_alloc] at b2' b3 n3
 exact ⟨b1', b2', b3, n3, bl⟩
theorem TwoIR.below' {w W W' : World} {g : Nat} {p q r s : Value} (h : TwoIR w W g p q r s) (hb : Below W.heap.size W W') : TwoIR w W' g p q r s :=
 ⟨h.a.below hb, h.b.below hb, h.c.below hb, h.nc.below hb h.c.lt, h.bl.trans (hb.mono (by have := h.a.lt; omega))⟩
theorem r3Make {w : World} {v u : Value} {n1 n2 : Bool} {x y k1 k2 : Nat} (hv : IntV w v n1 x k1) (hu : IntV w u n2 y k2) (hy : 0 < y) (hr1 : k1 <= 2097152) (hr2 : k2 <= 2097152) :
  Calls Tryz.prog 48 #[v, u] w (RetRE w (ratL (mkRat (sgn (n1 != n2) x) y)) 0) := by
 have HU := hid hu
 obtain ⟨a, c, l, rfl, h1, h2, h3, h4⟩ := hv.ex
 obtain ⟨b, d, m, rfl, g1, g2, g3, g4⟩ := hu.ex
 have hl1 := h2.len
 have hl2 := g2.len
 have HQ := hid (quotN_ratL (n1 != n2) x hy)
 have H2 := hid h2
 have G2 := hid g2
 have H3 := hid h3
 have G3 := hid g3
 have HY := hid hy
 have hz : (signZ n2 y == 0) = false := by
  rw [beq_eq_false_iff_ne]
  unfold signZ
  rw [if_neg (by omega)]
  split <;> omega
 clear hv hu h2 g2 h3 g3 hy
 go_enter Tryz.func48, Tryz.ntmps48
 go_wp2_with fail
 have hF := TwoIR.mk' w (.bool n1) (.slice a l.length c) (.bool n2) (.slice b m.length d) 76 37
 generalize ((w.alloc (.cells #[.bool n1, .slice a l.length c] 76)).alloc (.cells #[.bool n2, .slice b m.length d] 76)).alloc (zerO 37) = W0 at *
 have HS := hid (r2Sign (HU.out.below hF.bl) (by omega))
 have HF0 := hid hF
 clear hF
 refine HS.out.mono ?_
 rintro e W ⟨rfl, hbW⟩
 have HF := hid (HF0.out.below' hbW)
 generalize signZ n2 y = sq at *
 clear HS HF0 hbW HU
 obtain ⟨x0, x1, _, xlt⟩ := HF.out.a
 obtain ⟨y0, y1, _, ylt⟩ := HF.out.b
 have hC := r3quot (n1 != n2) c d h1 g1 (H2.out.below HF.out.bl) (G2.out.below HF.out.bl) H3.out G3.out (by omega) (by omega) HY.out
 rw [HQ.out] at hC
 have HC := hid hC
 clear hC H2 G2
 go_wp2_with fail
 refine HC.out.mono ?_
 rintro e w5 ⟨v5, rfl, ⟨bn', bd', m1, m2, rfl, k3, k4, k5, k6⟩, k2⟩
 obtain ⟨r0, r1, r2, rf, rlt⟩ := HF.out.c.below k2
 have hN5 := hid (HF.out.nc.below k2 HF.out.c.lt)
 have K5 := hid k5
 have K6 := hid k6
 have hB5 := hid (HF.out.bl.trans (k2.mono (by have := HF.out.a.lt; omega)))
 clear HC k5 k6 k2 x0 x1 xlt y0 y1 ylt hz
 generalize ratL (mkRat (sgn (n1 != n2) x) y) = R at *
 go_wp2
 exact bodyPost_ret (v := .tuple #[.agg #[.bool R.neg, .slice bn' R.num.length m1, .slice bd' R.den.length m2], .int .i64 0]) (by simp [results, Tryz.results48, go_sem, r0, r1, r2]) rfl ⟨_, rfl, RatV.store hN5.out k3 k4 K5.out K6.out, below_store3 hB5.out (by omega) _ _ _⟩
theorem fracQ (a b : Int) : mkRat (sgn (decide (a < 0) != decide (b < 0)) a.natAbs) b.natAbs = (a : Rat) / (b : Rat) := by
 by_cases hb : b = 0
 ·subst hb
  simp [Rat.div_def]
 ·have h1 : mkRat (sgn (decide (a < 0) != decide (b < 0)) (a.natAbs * 1)) (1 * b.natAbs) = mkRat (sgn (decide (a < 0)) a.natAbs) 1 / mkRat (sgn (decide (b < 0)) b.natAbs) 1 := divQ _ _ _ _ _ _
  rw [sgn_of_int, sgn_of_int, Nat.mul_one, Nat.one_mul] at h1
  rw [h1, Rat.mkRat_one, Rat.mkRat_one]
theorem r3Frac (w : World) (a b : Int) (a1 : -9223372036854775808 <= a) (a2 : a <= 9223372036854775807) (b1 : -9223372036854775808 <= b) (b2 : b <= 9223372036854775807) (hb0 : b ≠ 0) :
  Calls Tryz.prog 25 #[.int .i64 a, .int .i64 b] w (RetRE w (ratL ((a : Rat) / (b : Rat))) 0) := by
 have hR := Box3.alloc w (.bool false) (.slice none 0 0) (.slice none 0 0) 37
 have hN := NoInt.alloc w #[.bool false, .slice none 0 0, .slice none 0 0] 37 (by simp)
 have hB0 : Below w.heap.size w (w.alloc (zerO 37)) := (Below.refl _ _).alloc (Nat.le_refl _) _
 have HO1 := hid (fun wv => r2Of wv a a1 a2)
 have HO2 := hid (fun wv => r2Of wv b b1 b2)
 have HR := hid hR
 have HN := hid hN
 have HB := hid hB0
 have HQ := hid (fracQ a b)
 have la := limbs_len64 (n := a.natAbs) (by omega)
 have lb := limbs_len64 (n := b.natAbs) (by omega)
 have HB0 := hid (show 0 < b.natAbs by omega)
 clear hR hN hB0 hb0
 go_enter Tryz.func25, Tryz.ntmps25
 go_wp2_with fail
 refine (HO1.out _).mono ?_
 rintro e w1 ⟨v1, rfl, i1, hb1⟩
 have I1 := hid i1
 have HRb1 := hid (HR.out.below hb1)
 have HNb1 := hid (HN.out.below hb1 HR.out.lt)
 have HB1 := hid (HB.out.trans (hb1.mono HB.out.size))
 clear HO1 HR HN HB i1 hb1
 go_wp2_with fail
 refine (HO2.out _).mono ?_
 rintro e w2 ⟨v2, rfl, i2, hb2⟩
 have hM := r3Make (I1.out.below hb2).v i2.v HB0.out (by omega) (by omega)
 rw [HQ.out] at hM
 have HM := hid hM
 have HR2 := hid (HRb1.out.below hb2)
 have HN2 := hid (HNb1.out.below hb2 HRb1.out.lt)
 have HB2 := hid (HB1.out.trans (hb2.mono HB1.out.size))
 clear HO2 HRb1 HNb1 HB1 i2 hb2 hM I1
 go_wp2_with fail
 refine HM.out.mono ?_
 rintro e w5 ⟨v5, rfl, ⟨bn', bd', m1, m2, rfl, k3, k4, k5, k6⟩, k2⟩
 obtain ⟨r0, r1, r2, rf, rlt⟩ := HR2.out.below k2
 have hN5 := hid (HN2.out.below k2 HR2.out.lt)
 have K5 := hid k5
 have K6 := hid k6
 have hB5 := hid (HB2.out.trans (k2.mono HB2.out.size))
 clear HM k5 k6 k2
 generalize ratL ((a : Rat) / (b : Rat)) = R at *
 go_wp2
 exact bodyPost_ret (v := .tuple #[.agg #[.bool R.neg, .slice bn' R.num.length m1, .slice bd' R.den.length m2], .int .i64 0]) (by simp [results, Tryz.results25, go_sem, r0, r1, r2]) rfl ⟨_, rfl, RatV.store hN5.out k3 k4 K5.out K6.out, below_store3 hB5.out (Nat.le_refl _) _ _ _⟩
structure TwoB (w W : World) (g : Nat) (p q r s t u : Value) : Prop where
 a : Box3 W g p q r
 b : Box3 W (g + 1) s t u
 bl : Below g w W
theorem TwoB.mk' (w : World) (p q r s t u : Value) (T : Nat) : TwoB w ((w.alloc (.cells #[p, q, r] T)).alloc (.cells #[s, t, u] T)) w.heap.size p q r s t u := by
 have step : ∀ (W : World) (o : Obj), Below W.heap.size W (W.alloc o) := fun W o => (Below.refl _ _).alloc (Nat.le_refl _) _
 have s1 := step w (.cells #[p, q, r] T)
 have s3 := step (w.alloc (.cells #[p, q, r] T)) (.cells #[s, t, u] T)
 have b1 := Box3.alloc w p q r T
 have b3 := Box3.alloc (w.alloc (.cells #[p, q, r] T)) s t u T
 have b1' := b1.below s3
 have bl := s1.trans (s3.mono (by simp))
 simp only [World.size_alloc] at b3
 exact ⟨b1', b3, bl⟩
theorem ratL_ext (x y : RatL) : decide (x = y) = (decide (x.neg = y.neg) && (decide (x.num = y.num) && decide (x.den = y.den))) := by
 rw [Bool.eq_iff_iff]
 simp only [decide_eq_true_eq, Bool.and_eq_true]
 obtain ⟨a, b, c⟩ := x
 obtain ⟨d, e, f⟩ := y
 simp
theorem r3Same {w : World} {v u : Value} {x y : RatL} (hv : RatV w v x) (hu : RatV w u y) :
  Calls Tryz.prog 24 #[v, u] w fun e w' => e = .returned (.bool (decide (x = y))) /\ Below w.heap.size w w' := by
 obtain ⟨an, ad, cn, cd, rfl, a2, a3, a4, a5⟩ := hv.ex
 obtain ⟨bn, bd, dn, dd, rfl, b2, b3, b4, b5⟩ := hu.ex
 have HR := hid (ratL_ext x y)
 generalize decide (x = y) = R at *
 have hl1 := a4.len
 have hl2 := a5.len
 have hl3 := b4.len
 have hl4 := b5.len
 have A4 := hid a4
 have A5 := hid a5
 have B4 := hid b4
 have B5 := hid b5
 clear hv hu a4 a5 b4 b5
 go_enter Tryz.func24, Tryz.ntmps24
 go_upto_region 1 with fail
 have hF := TwoB.mk' w (.bool x.neg) (.slice an x.num.length cn) (.slice ad x.den.length cd) (.bool y.neg) (.slice bn y.num.length dn) (.slice bd y.den.length dd) 37
 generalize (w.alloc (ratO x an cn ad cd 37)).alloc (ratO y bn dn bd dd 37) = W at *
 have HBl := hid hF.bl
 have HM1 := hid (r1Same cn dn (A4.out.below hF.bl) (B4.out.below hF.bl))
 have HM2 := hid (fun n => r1Same cd dd ((A5.out.below hF.bl).drewN n) ((B5.out.below hF.bl).drewN n))
 have HBn := hid (fun (wv : World) n => Below.drewN_refl wv n)
 obtain ⟨x0, x1, x2, _, xlt⟩ := hF.a
 obtain ⟨y0, y1, y2, _, ylt⟩ := hF.b
 have hbs := hF.bl.size
 clear hF A4 A5 B4 B5
 by_cases e1 : x.neg = y.neg
 ·have te1 : (x.neg == y.neg) = true := by rw [beq_iff_eq]; exact e1
  rw [decide_eq_true e1, Bool.true_and] at HR
  clear e1
  by_cases e2 : x.num = y.num
  ·rw [decide_eq_true e2] at HR HM1
   clear e2
   rw [Bool.true_and] at HR
   generalize decide (x.den = y.den) = D at *
   go_wp2_with fail
   refine HM1.out.mono ?_
   rintro e w2 ⟨rfl, n1, rfl⟩
   go_wp2_with fail
   refine (HM2.out n1).mono ?_
   rintro e w3 ⟨rfl, n2, rfl⟩
   go_wp2
   go_ret
   exact ⟨ret_bool HR.out.symm, HBl.out.trans ((HBn.out _ (n1 + n2)).mono HBl.out.size)⟩
  ·rw [decide_eq_false e2] at HR HM1
   clear e2
   rw [Bool.false_and] at HR
   go_wp2_with fail
   refine HM1.out.mono ?_
   rintro e w2 ⟨rfl, n1, rfl⟩
   go_wp2
   go_ret
   exact ⟨ret_bool HR.out.symm, HBl.out.trans ((HBn.out _ _).mono HBl.out.size)⟩
 ·have te1 : (x.neg == y.neg) = false := by rw [beq_eq_false_iff_ne]; exact e1
  rw [decide_eq_false e1, Bool.false_and] at HR
  clear e1
  go_wp2
  go_ret
  exact ⟨ret_bool HR.out.symm, HBl.out⟩
theorem r3Valid {w : World} {v : Value} {x : RatL} (hv : RatV w v x) (hx : RatLe x 1048576) :
  Calls Tryz.prog 52 #[v] w fun e w' => e = .returned (.bool (validR x)) /\ Below w.heap.size w w' := by
 have HV := hid hv
 have HX := hid hx
 obtain ⟨an, ad, cn, cd, rfl, a2, a3, a4, a5⟩ := hv.ex
 have HR : Hid (validR x = decide (x = canonL x)) := rfl
 generalize validR x = R at *
 have hl1 := a4.len
 have hl2 := a5.len
 clear hv hx a4 a5
 go_enter Tryz.func52, Tryz.ntmps52
 go_upto_region 1 with fail
 have hX := Box3.alloc w (.bool x.neg) (.slice an x.num.length cn) (.slice ad x.den.length cd) 37
 have hb : Below w.heap.size w (w.alloc (ratO x an cn ad cd 37)) := (Below.refl _ _).alloc (Nat.le_refl _) _
 generalize w.alloc (ratO x an cn ad cd 37) = W at *
 have HB := hid hb
 have HV2 := hid (HV.out.below hb)
 have HX3 := hid hX
 obtain ⟨x0, x1, x2, xf, xlt⟩ := hX
 have xbl : Below W.heap.size W W.drew := (Below.refl _ _).drew
 clear hb xf HV
 go_region_held3 (fun w' => w'.cell? ⟨w.heap.size, 0, none⟩ = some (.bool x.neg) /\ w'.cell? ⟨w.heap.size, 1, none⟩ = some (.slice an x.num.length cn) /\ w'.cell? ⟨w.heap.size, 2, none⟩ = some (.slice ad x.den.length cd))
  (first | exact S3_keep x0 x1 x2 xlt ‹Below W.heap.size W _› | go_keep)
  (first
   | (go_at_call 58; have hS := ‹Below W.heap.size W _›; refine (r3Canon (HV2.out.below hS) HX.out).mono ?_; rintro e w1 ⟨v1, rfl, g1, g2⟩
      have hS1 := hS.trans (g2.mono hS.size); have G1 := hid g1; clear g1)
   | (go_at_call 24; have hS := ‹Below W.heap.size W _›; refine (r3Same (HV2.out.below hS) G1.out).mono ?_
      rintro e w2 ⟨rfl, g3⟩
      have hS2 := hS.trans (g3.mono hS.size)
      have hB2 := hid (HB.out.trans (hS2.mono HB.out.size))))
 go_wp2
 go_ret
 exact ⟨ret_bool HR.out.symm, hB2.out⟩
theorem allV_take {L : List RatL} {j : Nat} {x : RatL} (hx : L[j]? = some x) : (L.take (j + 1)).all validR = ((L.take j).all validR && validR x) := by
 rw [take_succ_at hx, List.all_append]; simp
theorem allV_false {L : List RatL} {x : RatL} (hx : x ∈ L) (h : validR x = false) : L.all validR = false := by
 rw [List.all_eq_false]; exact ⟨x, hx, by simp [h]⟩
theorem r3ValidAll {w : World} {a : Option Addr} {L : List RatL} (c : Nat) (h : RatsAt w a L) (hL : ∀ x ∈ L, RatLe x 1048576) :
  Calls Tryz.prog 40 #[.slice a L.length c] w fun e w' => e = .returned (.bool (L.all validR)) /\ Below w.heap.size w w' := by
 have hl := h.len
 have H := hid h
 have HL := hid hL
 have HR : Hid (L.all validR = L.all validR) := rfl
 have HF : Hid (∀ x ∈ L, validR x = false -> L.all validR = false) := fun x hx hf => allV_false hx hf
 clear h hL
 go_enter Tryz.func40, Tryz.ntmps40
 go_wp2
 go_loopw [3] (fun i wr => ∃ j : Nat, j <= L.length /\ i = .int .i64 (j : Int) /\ Hid ((L.take j).all validR = true) /\ Hid (Below w.heap.size w wr)) (fun i _ => L.length - (intOf i).toNat)
 case atStart => exact ⟨0, Nat.zero_le _, rfl, rfl, Below.refl _ _⟩
 case round =>
  obtain ⟨j, hj, rfl, HA, HB⟩ := hrel
  by_cases hlt : j < L.length
  ·obtain ⟨b, off, x, an, ad, cn, cd, rfl, hb, hx, o0, o1, o2, hv⟩ := (H.out.below HB.out).pick hlt
   have HM := hid (List.mem_of_getElem? hx)
   have HT := hid (allV_take hx)
   have HC := hid (r3Valid hv (HL.out _ HM.out))
   clear hx hv
   go_wp2_with fail
   refine HC.out.mono ?_
   rintro e w2 ⟨rfl, hb2⟩
   have HB2 := hid (HB.out.trans (hb2.mono HB.out.size))
   clear hb2 HC o0 o1 o2
   cases hq : validR x with
   | false =>
    have HF2 := hid (HF.out x HM.out hq)
    clear hq
    go_wp2
    go_ret
    exact ⟨ret_bool HF2.out.symm, HB2.out⟩
   | true =>
    have HT2 : Hid ((L.take (j + 1)).all validR = true) := by unfold Hid; rw [HT.out, HA.out, hq]; rfl
    clear hq
    go_wp2
    go_roundw
    case rel => exact ⟨j + 1, hlt, by go_num, HT2.out, HB2.out⟩
    case measure => simp [intOf]; omega
  ·have HR2 : Hid (L.all validR = true) := by
    have h := HA.out
    rw [List.take_of_length_le (by omega)] at h
    exact h
   go_wp2
   go_ret
   exact ⟨ret_bool HR2.out.symm, HB.out⟩
end Go.Proofs.YtoppijdedkdjeaaGreat

/-
  Contracts of the functions that the statements reach, in the order in which they are built: RatC, RatD, IntA, IntB, IntC, RatE, RatF, KerA, KerB, KerC, KerD, KerE, KerF, KerG, RatQ, RatR.
-/
import Derived.Test.YtfmhedfiklidhaaM6
import Derived.Deep.RegionHeld3
import Derived.Test.YtfmhedfiklidhaaM4
set_option linter.unusedVariables false
set_option linter.unusedSimpArgs false
set_option linter.constructorNameAsVariable false
set_option linter.deprecated false

/-
  The walk of rational.Canon: by contract.
-/
namespace Go.Proofs.Ytfmhedfiklidhaa
open Go.RowKit

/-- A struct of three cells in block g: its cells, and that it is free. -/
structure Box3 (w : World) (g : Nat) (p q r : Value) : Prop where
  c0 : w.cell? ⟨g, 0, none⟩ = some p
  c1 : w.cell? ⟨g, 1, none⟩ = some q
  c2 : w.cell? ⟨g, 2, none⟩ = some r
  free : ∀ o, w.frozen? ⟨g, o, none⟩ = false
  lt : g < w.heap.size
theorem Box3.below {w w' : World} {g : Nat} {p q r : Value} (h : Box3 w g p q r) (hb : Below w.heap.size w w') : Box3 w' g p q r :=
  ⟨(hb.cell h.lt).trans h.c0, (hb.cell h.lt).trans h.c1, (hb.cell h.lt).trans h.c2, fun o => (hb.frozen h.lt).trans (h.free o), Nat.lt_of_lt_of_le h.lt hb.size⟩
theorem Box3.alloc (w : World) (p q r : Value) (T : Nat) : Box3 (w.alloc (.cells #[p, q, r] T)) w.heap.size p q r :=
  ⟨by rw [World.cell?_alloc_at _ _ _ _ rfl]; rfl, by rw [World.cell?_alloc_at _ _ _ _ rfl]; rfl, by rw [World.cell?_alloc_at _ _ _ _ rfl]; rfl, fun o => World.frozen?_alloc_new _ _ _ _, by simp⟩

theorem S3_keep {W w1 : World} {g : Nat} {p q r : Value} (h0 : W.cell? ⟨g, 0, none⟩ = some p) (h1 : W.cell? ⟨g, 1, none⟩ = some q) (h2 : W.cell? ⟨g, 2, none⟩ = some r) (hlt : g < W.heap.size) (hb : Below W.heap.size W w1) :
    w1.cell? ⟨g, 0, none⟩ = some p ∧ w1.cell? ⟨g, 1, none⟩ = some q ∧ w1.cell? ⟨g, 2, none⟩ = some r :=
  ⟨(hb.cell hlt).trans h0, (hb.cell hlt).trans h1, (hb.cell hlt).trans h2⟩

set_option maxRecDepth 100000 in
set_option maxHeartbeats 3200000 in
theorem rCanon {w : World} {v : Value} {x : RatL} (h : RatV w v x) (hr : x.num.length ≤ 1099511627776) (hr2 : x.den.length < 1099511627776) : Calls Try.prog 68 #[v] w (RetR w (canonL x)) := by
  obtain ⟨an, ad, cn, cd, hv, h2, h3, h4, h5⟩ := h.ex
  have hl1 := h4.len
  have hl2 := h5.len
  have HV := Lib.hid h
  have H4 := Lib.hid h4
  have HVe := Lib.hid hv
  rw [hv]
  clear h h4 h5 hv
  go_enter Try.func68, Try.ntmps68
  go_wp2_with fail
  have hB0 : Below w.heap.size w ((w.alloc (.cells #[.bool x.neg, .slice an x.num.length cn, .slice ad x.den.length cd] 25)).alloc (.cells #[.bool false, .slice none 0 0, .slice none 0 0] 25)) :=
    ((Below.refl _ _).alloc (Nat.le_refl _) _).alloc (by simp) _
  have hX : Box3 ((w.alloc (.cells #[.bool x.neg, .slice an x.num.length cn, .slice ad x.den.length cd] 25)).alloc (.cells #[.bool false, .slice none 0 0, .slice none 0 0] 25)) w.heap.size (.bool x.neg) (.slice an x.num.length cn) (.slice ad x.den.length cd) :=
    (Box3.alloc w _ _ _ _).below ((Below.refl _ _).alloc (Nat.le_refl _) _)
  have hR : Box3 ((w.alloc (.cells #[.bool x.neg, .slice an x.num.length cn, .slice ad x.den.length cd] 25)).alloc (.cells #[.bool false, .slice none 0 0, .slice none 0 0] 25)) (w.heap.size + 1) (.bool false) (.slice none 0 0) (.slice none 0 0) := by
    have := Box3.alloc (w.alloc (.cells #[.bool x.neg, .slice an x.num.length cn, .slice ad x.den.length cd] 25)) (.bool false) (.slice none 0 0) (.slice none 0 0) 25
    simpa using this
  have hN : NoInt ((w.alloc (.cells #[.bool x.neg, .slice an x.num.length cn, .slice ad x.den.length cd] 25)).alloc (.cells #[.bool false, .slice none 0 0, .slice none 0 0] 25)) (w.heap.size + 1) := by
    have := NoInt.alloc (w.alloc (.cells #[.bool x.neg, .slice an x.num.length cn, .slice ad x.den.length cd] 25)) #[.bool false, .slice none 0 0, .slice none 0 0] 25 (by simp)
    simpa using this
  generalize (w.alloc (.cells #[.bool x.neg, .slice an x.num.length cn, .slice ad x.den.length cd] 25)).alloc (.cells #[.bool false, .slice none 0 0, .slice none 0 0] 25) = W at *
  have HV2 := Lib.hid (HV.out.below hB0)
  have H42 := Lib.hid (H4.out.below hB0)
  rw [HVe.out] at HV2
  obtain ⟨x0, x1, x2, xf, xlt⟩ := hX
  have HR := Lib.hid hR
  have HNo := Lib.hid hN
  have HB := Lib.hid hB0
  have xbl : Below W.heap.size W W.drew := (Below.refl _ _).drew
  clear hR hN hB0 xf HV HVe H4
  go_region_held3 (fun w' => w'.cell? ⟨w.heap.size, 0, none⟩ = some (.bool x.neg) ∧ w'.cell? ⟨w.heap.size, 1, none⟩ = some (.slice an x.num.length cn) ∧ w'.cell? ⟨w.heap.size, 2, none⟩ = some (.slice ad x.den.length cd))
    (first | exact S3_keep x0 x1 x2 xlt ‹Below W.heap.size W _› | go_keep)
    (first
      | (go_at_call 67; have hS := ‹Below W.heap.size W _›; refine (rUnder (HV2.out.below hS) (by show x.den.length ≤ _; omega)).mono ?_; rintro e w1 ⟨a1, c1, l1, rfl, g1, g2, g3, g4, g5⟩
         have hS1 := hS.trans (g5.mono hS.size))
      | (go_at_call 90; have hS := ‹Below W.heap.size W _›; refine (rQuot x.neg cn c1 h2 g1 (H42.out.below hS) g2 rfl g3 hr (by omega) (underN_pos _)).mono ?_
         rintro e w2 ⟨v2, rfl, ⟨bn, bd, m1, m2, rfl, k3, k4, k5, k6⟩, k2⟩
         have hS2 := hS.trans (k2.mono hS.size)
         obtain ⟨r0, r1, r2, rf, rlt⟩ := HR.out.below hS2
         have hN2 := Lib.hid (HNo.out.below hS2 HR.out.lt)
         have K5 := Lib.hid k5
         have K6 := Lib.hid k6
         have hB2 := Lib.hid (HB.out.trans (hS2.mono HB.out.size))))
  go_wp2
  have hbf := (((hB2.out.setCell (p := ⟨w.heap.size + 1, 0, none⟩) (Nat.le_succ _) (.bool (canonL x).neg)).setCell (p := ⟨w.heap.size + 1, 1, none⟩) (Nat.le_succ _) (.slice bn (canonL x).num.length m1)).setCell (p := ⟨w.heap.size + 1, 2, none⟩) (Nat.le_succ _) (.slice bd (canonL x).den.length m2))
  refine bodyPost_ret (v := .agg #[.bool (canonL x).neg, .slice bn (canonL x).num.length m1, .slice bd (canonL x).den.length m2]) (by simp [results, Try.results68, go_sem, r0, r1, r2, canonL]) rfl ⟨_, rfl, ⟨bn, bd, m1, m2, rfl, k3, k4, ?_, ?_⟩, hbf⟩
  · exact ((K5.out.setCell hN2.out _ _).setCell (hN2.out.setCell _ _ (by simp)) _ _).setCell ((hN2.out.setCell _ _ (by simp)).setCell _ _ (by simp)) _ _
  · exact ((K6.out.setCell hN2.out _ _).setCell (hN2.out.setCell _ _ (by simp)) _ _).setCell ((hN2.out.setCell _ _ (by simp)).setCell _ _ (by simp)) _ _

end Go.Proofs.Ytfmhedfiklidhaa

/-
  The walk of rational.Valid: by contract.
-/
namespace Go.Proofs.Ytfmhedfiklidhaa
open Go.RowKit

theorem cmpN_zero {x y : Nat} : (cmpN x y == 0) = decide (x = y) := by
  unfold cmpN
  rw [Bool.eq_iff_iff, beq_iff_eq, decide_eq_true_eq]
  split <;> (try split) <;> omega

/-- Behind Canon: the comparison of the fields. -/
theorem len_beq {a b : Nat} : ((a : Int) == (b : Int)) = decide (a = b) := by
  rw [Bool.eq_iff_iff, beq_iff_eq, decide_eq_true_eq]; omega

end Go.Proofs.Ytfmhedfiklidhaa

/-
  The walks of integer.Make, Sign, Mul, Cmp: by contract.
-/
namespace Go.Proofs.Ytfmhedfiklidhaa
open Go.RowKit

/-- A number with a sign. -/
def sgn (neg : Bool) (n : Nat) : Int := if neg then -(n : Int) else (n : Int)
/-- The sign of a sign and a magnitude. -/
def signZ (neg : Bool) (n : Nat) : Int := if n = 0 then 0 else if neg then -1 else 1
def cmpI (x y : Int) : Int := if x < y then -1 else if y < x then 1 else 0

/-- An integer as a value: its sign and its limbs, whatever they are. -/
structure IntV (w : World) (v : Value) (neg : Bool) (n k : Nat) : Prop where
  ex : ∃ (a : Option Addr) (c : Nat) (l : List Nat), v = .agg #[.bool neg, .slice a l.length c] ∧ l.length ≤ c ∧ U32s w a l ∧ lval l = n ∧ l.length ≤ k
theorem IntV.below {w w' : World} {v : Value} {neg : Bool} {n k : Nat} (h : IntV w v neg n k) (hb : Below w.heap.size w w') : IntV w' v neg n k := by
  obtain ⟨a, c, l, h1, h2, h3, h4, h5⟩ := h.ex
  exact ⟨a, c, l, h1, h2, h3.below hb, h4, h5⟩
/-- What Make and Mul hand back. -/
def RetI (w : World) (neg : Bool) (n k : Nat) (e : Ending) (w' : World) : Prop := ∃ v, e = .returned v ∧ IntV w' v (neg && decide (n ≠ 0)) n k ∧ Below w.heap.size w w'

/-- A struct of two cells in block g. -/
structure Box2 (w : World) (g : Nat) (p q : Value) : Prop where
  c0 : w.cell? ⟨g, 0, none⟩ = some p
  c1 : w.cell? ⟨g, 1, none⟩ = some q
  free : ∀ o, w.frozen? ⟨g, o, none⟩ = false
  lt : g < w.heap.size
theorem Box2.below {w w' : World} {g : Nat} {p q : Value} (h : Box2 w g p q) (hb : Below w.heap.size w w') : Box2 w' g p q :=
  ⟨(hb.cell h.lt).trans h.c0, (hb.cell h.lt).trans h.c1, fun o => (hb.frozen h.lt).trans (h.free o), Nat.lt_of_lt_of_le h.lt hb.size⟩
theorem Box2.alloc (w : World) (p q : Value) (T : Nat) : Box2 (w.alloc (.cells #[p, q] T)) w.heap.size p q :=
  ⟨by rw [World.cell?_alloc_at _ _ _ _ rfl]; rfl, by rw [World.cell?_alloc_at _ _ _ _ rfl]; rfl, fun o => World.frozen?_alloc_new _ _ _ _, by simp⟩

set_option maxRecDepth 100000 in
set_option maxHeartbeats 1600000 in
theorem iMake {w : World} {a : Option Addr} {l : List Nat} (neg : Bool) {n : Nat} (c k : Nat) (hc : l.length ≤ c) (h : U32s w a l) (hx : lval l = n) (hk : l.length ≤ k) (hr : k ≤ 17592186044416) :
    Calls Try.prog 62 #[.bool neg, .slice a l.length c] w (RetI w neg n k) := by
  have hB0 : Below w.heap.size w (w.alloc (.cells #[.bool false, .slice none 0 0] 62)) := (Below.refl _ _).alloc (Nat.le_refl _) _
  have HM := Lib.hid (nMake c hc (h.below hB0) (by omega))
  rw [hx] at HM
  have hR := Box2.alloc w (.bool false) (.slice none 0 0) 62
  have hN := NoInt.alloc w #[.bool false, .slice none 0 0] 62 (by simp)
  have hl := h.len
  have hnl : (limbs n).length ≤ l.length := by have := limbs_len_of_lval h.lim; rwa [hx] at this
  have HB := Lib.hid hB0
  have HR := Lib.hid hR
  have HN := Lib.hid hN
  clear h hx hB0 hR hN
  go_enter Try.func62, Try.ntmps62
  go_wp2_with fail
  refine HM.out.mono ?_
  rintro e w1 ⟨a1, c1, rfl, h1, h2, hb⟩
  obtain ⟨r0, r1, rf, rlt⟩ := HR.out.below hb
  have HN1 := Lib.hid (HN.out.below hb (by simp))
  have HB1 := Lib.hid (HB.out.trans (hb.mono HB.out.size))
  have H2 := Lib.hid h2
  clear HM HR HN HB h2 hb
  by_cases hn : n = 0
  · subst hn
    rw [limbs_zero] at *
    cases neg with
    | false =>
      go_wp2
      have hbf := (HB1.out.setCell (p := ⟨w.heap.size, 0, none⟩) (Nat.le_refl _) (.bool false)).setCell (p := ⟨w.heap.size, 1, none⟩) (Nat.le_refl _) (.slice a1 0 c1)
      exact bodyPost_ret (v := .agg #[.bool false, .slice a1 0 c1]) (by simp [results, Try.results62, go_sem, r0, r1]) rfl ⟨_, rfl, ⟨a1, c1, [], rfl, Nat.zero_le _, U32s.nil _ _, rfl, Nat.zero_le _⟩, hbf⟩
    | true =>
      go_wp2
      have hbf := (HB1.out.setCell (p := ⟨w.heap.size, 0, none⟩) (Nat.le_refl _) (.bool false)).setCell (p := ⟨w.heap.size, 1, none⟩) (Nat.le_refl _) (.slice a1 0 c1)
      exact bodyPost_ret (v := .agg #[.bool false, .slice a1 0 c1]) (by simp [results, Try.results62, go_sem, r0, r1]) rfl ⟨_, rfl, ⟨a1, c1, [], rfl, Nat.zero_le _, U32s.nil _ _, rfl, Nat.zero_le _⟩, hbf⟩
  · have hp := limbs_pos_iff.2 (Nat.pos_of_ne_zero hn)
    have hd := decide_eq_true hn
    have HDn := Lib.hid hd
    clear hn hd
    cases neg with
    | false =>
      go_wp2
      have hbf := (HB1.out.setCell (p := ⟨w.heap.size, 0, none⟩) (Nat.le_refl _) (.bool false)).setCell (p := ⟨w.heap.size, 1, none⟩) (Nat.le_refl _) (.slice a1 (limbs n).length c1)
      exact bodyPost_ret (v := .agg #[.bool false, .slice a1 (limbs n).length c1]) (by simp [results, Try.results62, go_sem, r0, r1]) rfl ⟨_, rfl, ⟨a1, c1, limbs n, by simp, h1, (H2.out.setCell HN1.out _ _).setCell (HN1.out.setCell _ _ (by simp)) _ _, lval_limbs n, by omega⟩, hbf⟩
    | true =>
      go_wp2
      have hbf := (HB1.out.setCell (p := ⟨w.heap.size, 0, none⟩) (Nat.le_refl _) (.bool true)).setCell (p := ⟨w.heap.size, 1, none⟩) (Nat.le_refl _) (.slice a1 (limbs n).length c1)
      exact bodyPost_ret (v := .agg #[.bool true, .slice a1 (limbs n).length c1]) (by simp [results, Try.results62, go_sem, r0, r1]) rfl ⟨_, rfl, ⟨a1, c1, limbs n, by rw [HDn.out]; rfl, h1, (H2.out.setCell HN1.out _ _).setCell (HN1.out.setCell _ _ (by simp)) _ _, lval_limbs n, by omega⟩, hbf⟩

set_option maxHeartbeats 800000 in
theorem iSign {w : World} {v : Value} {neg : Bool} {n k : Nat} (h : IntV w v neg n k) (hr : k ≤ 17592186044416) :
    Calls Try.prog 89 #[v] w fun e w' => e = .returned (.int .i64 (signZ neg n)) ∧ Below w.heap.size w w' := by
  obtain ⟨a, c, l, rfl, h1, h2, h3, h4⟩ := h.ex
  have hB0 : Below w.heap.size w (w.alloc (.cells #[.bool neg, .slice a l.length c] 62)) := (Below.refl _ _).alloc (Nat.le_refl _) _
  have H2 := Lib.hid (h2.below hB0)
  have HB := Lib.hid hB0
  have hl := h2.len
  clear h h2 hB0
  by_cases hn : n = 0
  · subst hn
    have HZ := Lib.hid (nBits_zero c h1 H2.out h3)
    clear h3
    go_enter Try.func89, Try.ntmps89
    go_wp2_with fail
    refine HZ.out.mono ?_
    rintro e w' ⟨rfl, rfl⟩
    go_wp2
    go_ret
    exact ⟨rfl, HB.out⟩
  · have HZ := Lib.hid (nBits_pos c h1 H2.out h3 hn (by omega))
    have HS : Hid (signZ neg n = if neg then -1 else 1) := by unfold Hid signZ; rw [if_neg hn]
    clear h3 hn
    go_enter Try.func89, Try.ntmps89
    go_wp2_with fail
    refine HZ.out.mono ?_
    rintro e w' ⟨⟨m, rfl, hm1, hm2⟩, rfl⟩
    have hz : ((m : Int) == 0) = false := by rw [beq_eq_false_iff_ne]; omega
    cases neg with
    | false =>
      go_wp2
      go_ret
      exact ⟨ret_int HS.out.symm, HB.out⟩
    | true =>
      go_wp2
      go_ret
      exact ⟨ret_int HS.out.symm, HB.out⟩

end Go.Proofs.Ytfmhedfiklidhaa

/-
  The walks of integer.Mul and Cmp: by contract.
-/
namespace Go.Proofs.Ytfmhedfiklidhaa
open Go.RowKit

theorem S22_keep {W w1 : World} {g h : Nat} {p q r s : Value} (hg : Box2 W g p q) (hh : Box2 W h r s) (hb : Below W.heap.size W w1) :
    w1.cell? ⟨g, 0, none⟩ = some p ∧ w1.cell? ⟨g, 1, none⟩ = some q ∧ w1.cell? ⟨h, 0, none⟩ = some r ∧ w1.cell? ⟨h, 1, none⟩ = some s :=
  ⟨(hb.cell hg.lt).trans hg.c0, (hb.cell hg.lt).trans hg.c1, (hb.cell hh.lt).trans hh.c0, (hb.cell hh.lt).trans hh.c1⟩

theorem mul_len {l m : List Nat} {x y k1 k2 : Nat} (hx : lval l = x) (hy : lval m = y) (h1 : l.length ≤ k1) (h2 : m.length ≤ k2) (hl : Lim l) (hm : Lim m) : (limbs (x * y)).length ≤ k1 + k2 := by
  refine limbs_len_le (Nat.lt_of_lt_of_le (m := 4294967296 ^ (l.length + m.length)) ?_ (Nat.pow_le_pow_right (by omega) (by omega)))
  rw [← hx, ← hy, Nat.pow_add]
  exact Nat.mul_lt_mul'' (lval_lt hl) (lval_lt hm)

theorem far2 {w : World} {g h o i : Nat} {u : Value} (hne : g ≠ h) : (w.setCell ⟨g, i, none⟩ u).cell? ⟨h, o, none⟩ = w.cell? ⟨h, o, none⟩ := World.cell?_setCell_other _ _ _ _ (by intro e; cases e; exact hne rfl)
theorem S22_store {W w1 : World} {g : Nat} {p q r s : Value} (hg : Box2 W g p q) (hh : Box2 W (g + 1) r s) (hb : Below W.heap.size W w1) (u u' : Value) :
    ((w1.setCell ⟨g + 1 + 1, 0, none⟩ u).setCell ⟨g + 1 + 1, 1, none⟩ u').cell? ⟨g, 0, none⟩ = some p ∧ ((w1.setCell ⟨g + 1 + 1, 0, none⟩ u).setCell ⟨g + 1 + 1, 1, none⟩ u').cell? ⟨g, 1, none⟩ = some q ∧
    ((w1.setCell ⟨g + 1 + 1, 0, none⟩ u).setCell ⟨g + 1 + 1, 1, none⟩ u').cell? ⟨g + 1, 0, none⟩ = some r ∧ ((w1.setCell ⟨g + 1 + 1, 0, none⟩ u).setCell ⟨g + 1 + 1, 1, none⟩ u').cell? ⟨g + 1, 1, none⟩ = some s := by
  obtain ⟨a, b, c, d⟩ := S22_keep hg hh hb
  refine ⟨?_, ?_, ?_, ?_⟩ <;> rw [far2 (by omega), far2 (by omega)] <;> assumption

/-- Two integers boxed. -/
structure Two (w W : World) (g : Nat) (p q r s : Value) : Prop where
  a : Box2 W g p q
  b : Box2 W (g + 1) r s
  bl : Below g w W
theorem Two.mk' (w : World) (p q r s : Value) (T : Nat) : Two w ((w.alloc (.cells #[p, q] T)).alloc (.cells #[r, s] T)) w.heap.size p q r s := by
  refine ⟨(Box2.alloc w p q T).below ((Below.refl _ _).alloc (Nat.le_refl _) _), ?_, ((Below.refl _ _).alloc (Nat.le_refl _) _).alloc (by simp) _⟩
  have := Box2.alloc (w.alloc (.cells #[p, q] T)) r s T
  simpa using this

theorem cmpI_neg (x y : Nat) : cmpI (-(x : Int)) (-(y : Int)) = cmpN y x := by
  unfold cmpI cmpN
  by_cases h1 : y < x
  · rw [if_pos (by omega), if_pos h1]
  · rw [if_neg (by omega), if_neg h1]
    by_cases h2 : x < y
    · rw [if_pos (by omega), if_pos h2]
    · rw [if_neg (by omega), if_neg h2]
theorem cmpI_pos (x y : Nat) : cmpI (x : Int) (y : Int) = cmpN x y := by
  unfold cmpI cmpN
  by_cases h1 : x < y
  · rw [if_pos (by omega), if_pos h1]
  · rw [if_neg (by omega), if_neg h1]
    by_cases h2 : y < x
    · rw [if_pos (by omega), if_pos h2]
    · rw [if_neg (by omega), if_neg h2]
/-- Cmp by signs. -/
theorem cmp_signs (n1 n2 : Bool) (x y : Nat) : cmpI (sgn n1 x) (sgn n2 y) = if signZ n1 x < signZ n2 y then -1 else if signZ n2 y < signZ n1 x then 1 else if signZ n1 x < 0 then cmpN y x else cmpN x y := by
  have s1 : signZ n1 x = if x = 0 then 0 else if n1 then -1 else 1 := rfl
  have s2 : signZ n2 y = if y = 0 then 0 else if n2 then -1 else 1 := rfl
  rw [s1, s2]
  by_cases hx : x = 0
  · subst hx
    by_cases hy : y = 0
    · subst hy; cases n1 <;> cases n2 <;> simp [cmpI, sgn, cmpN]
    · cases n1 <;> cases n2 <;> simp [cmpI, sgn, cmpN, hy] <;> omega
  · by_cases hy : y = 0
    · subst hy; cases n1 <;> cases n2 <;> simp [cmpI, sgn, cmpN, hx] <;> omega
    · cases n1 <;> cases n2 <;> simp only [sgn, hx, hy, if_false, if_true, Bool.false_eq_true]
      · rw [cmpI_pos]; simp
      · unfold cmpI; rw [if_neg (by omega), if_pos (by omega)]; simp
      · unfold cmpI; rw [if_pos (by omega)]; simp
      · rw [cmpI_neg]; simp

end Go.Proofs.Ytfmhedfiklidhaa

/-
  The walk of integer.Cmp: by contract.
-/
namespace Go.Proofs.Ytfmhedfiklidhaa
open Go.RowKit

theorem signZ_bd (n : Bool) (x : Nat) : -1 ≤ signZ n x ∧ signZ n x ≤ 1 := by unfold signZ; split <;> (try split) <;> omega

end Go.Proofs.Ytfmhedfiklidhaa

/-
  The walks of rational.signed, Sign, cross: by contract.
-/
namespace Go.Proofs.Ytfmhedfiklidhaa
open Go.RowKit

theorem sgn_and (b : Bool) (n : Nat) : sgn (b && decide (n ≠ 0)) n = sgn b n := by
  by_cases h : n = 0
  · subst h; cases b <;> rfl
  · simp [h]
theorem signZ_and (b : Bool) (n : Nat) : signZ (b && decide (n ≠ 0)) n = signZ b n := by
  by_cases h : n = 0
  · subst h; cases b <;> rfl
  · simp [h]

theorem S33_keep {W w1 : World} {g h B : Nat} {p q r s t u : Value} (hg : Box3 W g p q r) (hh : Box3 W h s t u) (h1 : g < B) (h2 : h < B) (hb : Below B W w1) :
    w1.cell? ⟨g, 0, none⟩ = some p ∧ w1.cell? ⟨g, 1, none⟩ = some q ∧ w1.cell? ⟨g, 2, none⟩ = some r ∧ w1.cell? ⟨h, 0, none⟩ = some s ∧ w1.cell? ⟨h, 1, none⟩ = some t ∧ w1.cell? ⟨h, 2, none⟩ = some u :=
  ⟨(hb.cell h1).trans hg.c0, (hb.cell h1).trans hg.c1, (hb.cell h1).trans hg.c2, (hb.cell h2).trans hh.c0, (hb.cell h2).trans hh.c1, (hb.cell h2).trans hh.c2⟩

theorem sgn_prod (b : Bool) (n m : Nat) : sgn ((b && decide (n ≠ 0)) != false && decide (n * m ≠ 0)) (n * m) = sgn b (n * m) := by
  rw [sgn_and, Bool.bne_false]
  by_cases h : n = 0
  · subst h; rw [Nat.zero_mul]; cases b <;> rfl
  · simp [h]
theorem NoInt.far {w : World} {g h : Nat} (hn : NoInt w g) (hne : h ≠ g) (o : Nat) (v : Value) : NoInt (w.setCell ⟨h, o, none⟩ v) g := fun o' x e => hn o' x ((far2 hne).symm.trans e)

/-- Two rationals boxed, and two integers' places. -/
structure Four (w W : World) (g : Nat) (p q r s t u : Value) : Prop where
  a : Box3 W g p q r
  b : Box3 W (g + 1) s t u
  c : Box2 W (g + 1 + 1) (.bool false) (.slice none 0 0)
  d : Box2 W (g + 1 + 1 + 1) (.bool false) (.slice none 0 0)
  nc : NoInt W (g + 1 + 1)
  nd : NoInt W (g + 1 + 1 + 1)
  bl : Below g w W
theorem Four.mk' (w : World) (p q r s t u : Value) (T T' : Nat) : Four w ((((w.alloc (.cells #[p, q, r] T)).alloc (.cells #[s, t, u] T)).alloc (.cells #[.bool false, .slice none 0 0] T')).alloc (.cells #[.bool false, .slice none 0 0] T')) w.heap.size p q r s t u := by
  have step : ∀ (W : World) (o : Obj), Below W.heap.size W (W.alloc o) := fun W o => (Below.refl _ _).alloc (Nat.le_refl _) _
  have s1 := step w (.cells #[p, q, r] T)
  have s2 := step (w.alloc (.cells #[p, q, r] T)) (.cells #[s, t, u] T)
  have s3 := step ((w.alloc (.cells #[p, q, r] T)).alloc (.cells #[s, t, u] T)) (.cells #[.bool false, .slice none 0 0] T')
  have s4 := step (((w.alloc (.cells #[p, q, r] T)).alloc (.cells #[s, t, u] T)).alloc (.cells #[.bool false, .slice none 0 0] T')) (.cells #[.bool false, .slice none 0 0] T')
  have b1 := Box3.alloc w p q r T
  have b2 := Box3.alloc (w.alloc (.cells #[p, q, r] T)) s t u T
  have b3 := Box2.alloc ((w.alloc (.cells #[p, q, r] T)).alloc (.cells #[s, t, u] T)) (.bool false) (.slice none 0 0) T'
  have b4 := Box2.alloc (((w.alloc (.cells #[p, q, r] T)).alloc (.cells #[s, t, u] T)).alloc (.cells #[.bool false, .slice none 0 0] T')) (.bool false) (.slice none 0 0) T'
  have n3 := NoInt.alloc ((w.alloc (.cells #[p, q, r] T)).alloc (.cells #[s, t, u] T)) #[.bool false, .slice none 0 0] T' (by simp)
  have n4 := NoInt.alloc (((w.alloc (.cells #[p, q, r] T)).alloc (.cells #[s, t, u] T)).alloc (.cells #[.bool false, .slice none 0 0] T')) #[.bool false, .slice none 0 0] T' (by simp)
  have n3' := n3.below s4 (by simp)
  have b1' := ((b1.below s2).below s3).below s4
  have b2' := (b2.below s3).below s4
  have b3' := b3.below s4
  have bl := ((s1.trans (s2.mono (by simp))).trans (s3.mono (by simp; omega))).trans (s4.mono (by simp; omega))
  simp only [World.size_alloc] at b2' b3' b4 n3' n4
  exact ⟨b1', b2', b3', b4, n3', n4, bl⟩

/-- What cross hands back. -/
def RetX (w : World) (a b : RatL) (e : Ending) (w' : World) : Prop := ∃ v u n1 n2, e = .returned (.tuple #[v, u]) ∧ IntV w' v n1 (lval a.num * underN b.den) (a.num.length + b.den.length + 1) ∧ IntV w' u n2 (lval b.num * underN a.den) (b.num.length + a.den.length + 1) ∧
  sgn n1 (lval a.num * underN b.den) = sgn a.neg (lval a.num * underN b.den) ∧ sgn n2 (lval b.num * underN a.den) = sgn b.neg (lval b.num * underN a.den) ∧ Below w.heap.size w w'

end Go.Proofs.Ytfmhedfiklidhaa

/-
  The walk of rational.Cmp: by contract.
-/
namespace Go.Proofs.Ytfmhedfiklidhaa
open Go.RowKit

/-- How two numbers compare. -/
def cmpR (x y : RatL) : Int := cmpI (sgn x.neg (lval x.num * underN y.den)) (sgn y.neg (lval y.num * underN x.den))
theorem signZ_mul (b : Bool) (n : Nat) {m : Nat} (hm : 0 < m) : signZ b (n * m) = signZ b n := by
  unfold signZ
  have : n * m = 0 ↔ n = 0 := by rw [Nat.mul_eq_zero]; omega
  simp [this]
theorem cmpR_signs (x y : RatL) : cmpR x y = if signZ x.neg (lval x.num) < signZ y.neg (lval y.num) then -1 else if signZ y.neg (lval y.num) < signZ x.neg (lval x.num) then 1 else cmpR x y := by
  have h := cmp_signs x.neg y.neg (lval x.num * underN y.den) (lval y.num * underN x.den)
  rw [signZ_mul _ _ (underN_pos _), signZ_mul _ _ (underN_pos _)] at h
  split
  · rename_i h1; rw [if_pos h1] at h; exact h
  · rename_i h1
    split
    · rename_i h2; rw [if_neg h1, if_pos h2] at h; exact h
    · rfl

end Go.Proofs.Ytfmhedfiklidhaa

/-
  The walks of kernel.within and bare: by contract.
-/
namespace Go.Proofs.Ytfmhedfiklidhaa
open Go.RowKit

/-- lo <= n <= hi. -/
def wthn (n lo hi : Int) : Bool := decide (lo ≤ n ∧ n ≤ hi)

/-- An operation of a kernel. -/
structure OpL where
  kind : Int
  dst : Int
  src : Int
  other : Int
  cols : Int
  inner : Int
  index : List Int
  weights : List Int
  bias : List Int
  mul : Int
  shift : Int

def bareL (o : OpL) : Bool := decide (o.kind = 0 ∧ o.dst = 0 ∧ o.src = 0 ∧ o.other = 0 ∧ o.cols = 0 ∧ o.inner = 0 ∧ o.mul = 0 ∧ o.shift = 0 ∧ o.index = [] ∧ o.weights = [] ∧ o.bias = [])

end Go.Proofs.Ytfmhedfiklidhaa

/-
  The walk of kernel.fits, kind by kind: by contract.
-/
namespace Go.Proofs.Ytfmhedfiklidhaa
open Go.RowKit

theorem two_allocs {w w1 : World} {o1 o2 : Obj} (hb : Below ((w.alloc o1).alloc o2).heap.size ((w.alloc o1).alloc o2) w1) : Below w.heap.size w w1 :=
  (((Below.refl _ _).alloc (Nat.le_refl _) _).alloc (by simp) _).trans (hb.mono (by simp; omega))
theorem mul_int_bd {a b : Int} (h1 : 1 ≤ a) (h2 : a ≤ 262144) (h3 : 1 ≤ b) (h4 : b ≤ 262144) : 1 ≤ a * b ∧ a * b ≤ 68719476736 :=
  ⟨Int.le_trans (by decide) (Int.mul_le_mul h1 h3 (by omega) (by omega)), Int.le_trans (Int.mul_le_mul h2 h4 (by omega) (by omega)) (by decide)⟩
theorem wthn_iff {n lo hi : Int} : wthn n lo hi = true ↔ lo ≤ n ∧ n ≤ hi := by unfold wthn; rw [decide_eq_true_eq]

end Go.Proofs.Ytfmhedfiklidhaa

/-
  The walk of kernel.fits at OpGather: by contract.
-/
namespace Go.Proofs.Ytfmhedfiklidhaa
open Go.RowKit

end Go.Proofs.Ytfmhedfiklidhaa

/-
  The walk of kernel.fits at OpGemm: by contract.
-/
namespace Go.Proofs.Ytfmhedfiklidhaa
open Go.RowKit

/-- A struct of eleven cells in block g. -/
structure Box11 (w : World) (g : Nat) (p0 p1 p2 p3 p4 p5 p6 p7 p8 p9 p10 : Value) : Prop where
  c0 : w.cell? ⟨g, 0, none⟩ = some p0
  c1 : w.cell? ⟨g, 1, none⟩ = some p1
  c2 : w.cell? ⟨g, 2, none⟩ = some p2
  c3 : w.cell? ⟨g, 3, none⟩ = some p3
  c4 : w.cell? ⟨g, 4, none⟩ = some p4
  c5 : w.cell? ⟨g, 5, none⟩ = some p5
  c6 : w.cell? ⟨g, 6, none⟩ = some p6
  c7 : w.cell? ⟨g, 7, none⟩ = some p7
  c8 : w.cell? ⟨g, 8, none⟩ = some p8
  c9 : w.cell? ⟨g, 9, none⟩ = some p9
  c10 : w.cell? ⟨g, 10, none⟩ = some p10
  lt : g < w.heap.size
theorem Box11.below {w w' : World} {g : Nat} {p0 p1 p2 p3 p4 p5 p6 p7 p8 p9 p10 : Value} (h : Box11 w g p0 p1 p2 p3 p4 p5 p6 p7 p8 p9 p10) (hb : Below w.heap.size w w') : Box11 w' g p0 p1 p2 p3 p4 p5 p6 p7 p8 p9 p10 :=
  ⟨(hb.cell h.lt).trans h.c0, (hb.cell h.lt).trans h.c1, (hb.cell h.lt).trans h.c2, (hb.cell h.lt).trans h.c3, (hb.cell h.lt).trans h.c4, (hb.cell h.lt).trans h.c5, (hb.cell h.lt).trans h.c6, (hb.cell h.lt).trans h.c7, (hb.cell h.lt).trans h.c8, (hb.cell h.lt).trans h.c9, (hb.cell h.lt).trans h.c10, Nat.lt_of_lt_of_le h.lt hb.size⟩
theorem Box11.alloc (w : World) (p0 p1 p2 p3 p4 p5 p6 p7 p8 p9 p10 : Value) (T : Nat) : Box11 (w.alloc (.cells #[p0, p1, p2, p3, p4, p5, p6, p7, p8, p9, p10] T)) w.heap.size p0 p1 p2 p3 p4 p5 p6 p7 p8 p9 p10 := by
  refine ⟨?_, ?_, ?_, ?_, ?_, ?_, ?_, ?_, ?_, ?_, ?_, by simp⟩ <;> (rw [World.cell?_alloc_at _ _ _ _ rfl]; rfl)

/-- The sizes of OpGemm's operands. -/
theorem gemm_bd {n c i : Int} {l3 : Nat} (hn1 : 1 ≤ n) (hn2 : n ≤ 262144) (hc1 : 1 ≤ c) (hc2 : c ≤ 262144) : n.tmod c = n % c ∧ n.tdiv c = n / c ∧ 0 ≤ n / c ∧ n / c ≤ 262144 ∧ 0 ≤ n % c ∧ n % c ≤ 262144 := by
  have h1 := Int.emod_nonneg n (show c ≠ 0 by omega)
  have h2 := Int.emod_lt_of_pos n (show 0 < c by omega)
  have h3 : 0 ≤ n / c := Int.ediv_nonneg (by omega) (by omega)
  have h4 : n / c ≤ n := Int.ediv_le_self _ (by omega)
  exact ⟨Int.tmod_eq_emod_of_nonneg (by omega), Int.tdiv_eq_ediv_of_nonneg (by omega), h3, by omega, h1, by omega⟩

end Go.Proofs.Ytfmhedfiklidhaa

/-
  kernel.fits at any operation: by contract.
-/
namespace Go.Proofs.Ytfmhedfiklidhaa
open Go.RowKit

/-- What fits says. -/
def fitsL (o : OpL) (n m t : Int) : Bool :=
  if o.kind = 1 then decide (o.other = 0 ∧ o.cols = 0 ∧ o.inner = 0 ∧ o.mul = 0 ∧ o.shift = 0 ∧ o.weights.length = 0 ∧ o.bias.length = 0 ∧ (o.index.length : Int) = n) && o.index.all (fun x => wthn x (-1) (m - 1))
  else if o.kind = 2 then decide (o.other = 0 ∧ o.mul = 0 ∧ o.shift = 0 ∧ o.index.length = 0 ∧ 1 ≤ o.cols ∧ o.cols ≤ 262144 ∧ 1 ≤ o.inner ∧ o.inner ≤ 262144 ∧ m = o.inner * o.cols ∧ n % o.cols = 0 ∧ (o.bias.length : Int) = n / o.cols ∧ (o.weights.length : Int) = o.bias.length * o.inner)
  else if o.kind = 3 then decide (o.other = 0 ∧ o.cols = 0 ∧ o.inner = 0 ∧ o.mul = 0 ∧ o.shift = 0 ∧ o.index.length = 0 ∧ o.weights.length = 0 ∧ o.bias.length = 0 ∧ m = n)
  else if o.kind = 4 ∨ o.kind = 5 then decide (o.other = 0 ∧ o.cols = 0 ∧ o.mul = 0 ∧ o.shift = 0 ∧ o.index.length = 0 ∧ o.weights.length = 0 ∧ o.bias.length = 0 ∧ 1 ≤ o.inner ∧ o.inner ≤ 262144 ∧ m = n * o.inner)
  else if o.kind = 6 then decide (o.cols = 0 ∧ o.inner = 0 ∧ o.mul = 0 ∧ o.shift = 0 ∧ o.index.length = 0 ∧ o.weights.length = 0 ∧ o.bias.length = 0 ∧ m = n ∧ t = n)
  else if o.kind = 7 then decide (o.other = 0 ∧ o.cols = 0 ∧ o.inner = 0 ∧ o.index.length = 0 ∧ o.weights.length = 0 ∧ o.bias.length = 0 ∧ m = n ∧ 0 ≤ o.shift ∧ o.shift ≤ 62)
  else false

/-- An operation as a value. -/
structure OpV (w : World) (v : Value) (o : OpL) : Prop where
  ex : ∃ (a1 a2 a3 : Option Addr) (c1 c2 c3 : Nat), v = .agg #[.int .i64 o.kind, .int .i64 o.dst, .int .i64 o.src, .int .i64 o.other, .int .i64 o.cols, .int .i64 o.inner, .slice a1 o.index.length c1, .slice a2 o.weights.length c2, .slice a3 o.bias.length c3, .int .i64 o.mul, .int .i64 o.shift] ∧
    Ints w Any a1 o.index ∧ Ints w Any a2 o.weights ∧ Ints w Any a3 o.bias ∧ o.index.length ≤ c1 ∧ o.weights.length ≤ c2 ∧ o.bias.length ≤ c3
theorem OpV.below {w w' : World} {v : Value} {o : OpL} (h : OpV w v o) (hb : Below w.heap.size w w') : OpV w' v o := by
  obtain ⟨a1, a2, a3, c1, c2, c3, e, h1, h2, h3, h4⟩ := h.ex
  exact ⟨a1, a2, a3, c1, c2, c3, e, h1.below hb, h2.below hb, h3.below hb, h4⟩

end Go.Proofs.Ytfmhedfiklidhaa

/-
  Kernels in memory. The walk of kernel.bounds: by contract.
-/
namespace Go.Proofs.Ytfmhedfiklidhaa
open Go.RowKit

/-- The slice at a reads as the rationals L. -/
structure RatsAt (w : World) (a : Option Addr) (L : List RatL) : Prop where
  len : L.length ≤ 9223372036854775807
  row : L = [] ∨ ∃ b off, a = some ⟨b, off, none⟩ ∧ b < w.heap.size ∧ ∀ (j : Nat) (x : RatL), L[j]? = some x → ∃ (an ad : Option Addr) (cn cd : Nat), w.cell? ⟨b, off + j * 3, none⟩ = some (.bool x.neg) ∧ w.cell? ⟨b, off + j * 3 + 1, none⟩ = some (.slice an x.num.length cn) ∧ w.cell? ⟨b, off + j * 3 + 2, none⟩ = some (.slice ad x.den.length cd) ∧
    RatV w (.agg #[.bool x.neg, .slice an x.num.length cn, .slice ad x.den.length cd]) x
theorem RatsAt.below {w w' : World} {a : Option Addr} {L : List RatL} (h : RatsAt w a L) (hb : Below w.heap.size w w') : RatsAt w' a L := by
  refine ⟨h.len, h.row.imp id ?_⟩
  rintro ⟨b, off, rfl, hs, hc⟩
  refine ⟨b, off, rfl, Nat.lt_of_lt_of_le hs hb.size, fun j x hj => ?_⟩
  obtain ⟨an, ad, cn, cd, h1, h2, h3, h4⟩ := hc j x hj
  exact ⟨an, ad, cn, cd, (hb.cell hs).trans h1, (hb.cell hs).trans h2, (hb.cell hs).trans h3, h4.below hb⟩
theorem RatsAt.pick {w : World} {a : Option Addr} {L : List RatL} (h : RatsAt w a L) {k : Nat} (hk : k < L.length) :
    ∃ b off x an ad cn cd, a = some ⟨b, off, none⟩ ∧ b < w.heap.size ∧ L[k]? = some x ∧ w.cell? ⟨b, off + k * 3, none⟩ = some (.bool x.neg) ∧ w.cell? ⟨b, off + k * 3 + 1, none⟩ = some (.slice an x.num.length cn) ∧ w.cell? ⟨b, off + k * 3 + 2, none⟩ = some (.slice ad x.den.length cd) ∧
      RatV w (.agg #[.bool x.neg, .slice an x.num.length cn, .slice ad x.den.length cd]) x := by
  rcases h.row with rfl | ⟨b, off, rfl, hb, hc⟩
  · simp at hk
  · have hd : L[k]? = some L[k] := by simp [hk]
    obtain ⟨an, ad, cn, cd, h1, h2, h3, h4⟩ := hc k _ hd
    exact ⟨b, off, L[k], an, ad, cn, cd, rfl, hb, hd, h1, h2, h3, h4⟩

/-- The slice at a reads as the operations L. -/
structure OpsAt (w : World) (a : Option Addr) (L : List OpL) : Prop where
  len : L.length ≤ 9223372036854775807
  row : L = [] ∨ ∃ b off, a = some ⟨b, off, none⟩ ∧ b < w.heap.size ∧ ∀ (j : Nat) (x : OpL), L[j]? = some x → ∃ (a1 a2 a3 : Option Addr) (c1 c2 c3 : Nat),
    (w.cell? ⟨b, off + j * 11, none⟩ = some (.int .i64 x.kind) ∧ w.cell? ⟨b, off + j * 11 + 1, none⟩ = some (.int .i64 x.dst) ∧ w.cell? ⟨b, off + j * 11 + 2, none⟩ = some (.int .i64 x.src) ∧ w.cell? ⟨b, off + j * 11 + 3, none⟩ = some (.int .i64 x.other) ∧
      w.cell? ⟨b, off + j * 11 + 4, none⟩ = some (.int .i64 x.cols) ∧ w.cell? ⟨b, off + j * 11 + 5, none⟩ = some (.int .i64 x.inner) ∧ w.cell? ⟨b, off + j * 11 + 6, none⟩ = some (.slice a1 x.index.length c1) ∧ w.cell? ⟨b, off + j * 11 + 7, none⟩ = some (.slice a2 x.weights.length c2) ∧
      w.cell? ⟨b, off + j * 11 + 8, none⟩ = some (.slice a3 x.bias.length c3) ∧ w.cell? ⟨b, off + j * 11 + 9, none⟩ = some (.int .i64 x.mul) ∧ w.cell? ⟨b, off + j * 11 + 10, none⟩ = some (.int .i64 x.shift)) ∧
    OpV w (.agg #[.int .i64 x.kind, .int .i64 x.dst, .int .i64 x.src, .int .i64 x.other, .int .i64 x.cols, .int .i64 x.inner, .slice a1 x.index.length c1, .slice a2 x.weights.length c2, .slice a3 x.bias.length c3, .int .i64 x.mul, .int .i64 x.shift]) x
theorem OpsAt.below {w w' : World} {a : Option Addr} {L : List OpL} (h : OpsAt w a L) (hb : Below w.heap.size w w') : OpsAt w' a L := by
  refine ⟨h.len, h.row.imp id ?_⟩
  rintro ⟨b, off, rfl, hs, hc⟩
  refine ⟨b, off, rfl, Nat.lt_of_lt_of_le hs hb.size, fun j x hj => ?_⟩
  obtain ⟨a1, a2, a3, c1, c2, c3, ⟨h0, h1, h2, h3, h4, h5, h6, h7, h8, h9, h10⟩, hv⟩ := hc j x hj
  exact ⟨a1, a2, a3, c1, c2, c3, ⟨(hb.cell hs).trans h0, (hb.cell hs).trans h1, (hb.cell hs).trans h2, (hb.cell hs).trans h3, (hb.cell hs).trans h4, (hb.cell hs).trans h5, (hb.cell hs).trans h6, (hb.cell hs).trans h7, (hb.cell hs).trans h8, (hb.cell hs).trans h9, (hb.cell hs).trans h10⟩, hv.below hb⟩

/-- A kernel. -/
structure KerL where
  sizes : List Int
  ops : List OpL
  output : Int
  inShift : Int
  outShift : Int
  lo : List RatL
  hi : List RatL
  err : List RatL

/-- A kernel as a value. -/
structure KerV (w : World) (v : Value) (k : KerL) : Prop where
  ex : ∃ (a1 a2 a3 a4 a5 : Option Addr) (c1 c2 c3 c4 c5 : Nat), v = .agg #[.slice a1 k.sizes.length c1, .slice a2 k.ops.length c2, .int .i64 k.output, .int .i64 k.inShift, .int .i64 k.outShift, .slice a3 k.lo.length c3, .slice a4 k.hi.length c4, .slice a5 k.err.length c5] ∧
    Ints w Any a1 k.sizes ∧ OpsAt w a2 k.ops ∧ RatsAt w a3 k.lo ∧ RatsAt w a4 k.hi ∧ RatsAt w a5 k.err
theorem KerV.below {w w' : World} {v : Value} {k : KerL} (h : KerV w v k) (hb : Below w.heap.size w w') : KerV w' v k := by
  obtain ⟨a1, a2, a3, a4, a5, c1, c2, c3, c4, c5, e, h1, h2, h3, h4, h5⟩ := h.ex
  exact ⟨a1, a2, a3, a4, a5, c1, c2, c3, c4, c5, e, h1.below hb, h2.below hb, h3.below hb, h4.below hb, h5.below hb⟩

/-- The numbers are not too long. -/
def RatL.Short (x : RatL) : Prop := x.num.length ≤ 1048576 ∧ x.den.length ≤ 1048576
def pairOK (a b : RatL) : Bool := validR a && (validR b && !decide (0 < cmpR a b))
def errOK (e : RatL) : Bool := validR e && !e.neg
def boundsL (k : KerL) : Bool :=
  decide ((k.lo.length : Int) = k.sizes.getD 0 0 ∧ (k.hi.length : Int) = k.sizes.getD 0 0 ∧ (k.err.length : Int) = k.sizes.getD k.output.toNat 0) && ((k.lo.zip k.hi).all (fun p => pairOK p.1 p.2) && k.err.all errOK)

/-- A struct of eight cells in block g. -/
structure Box8 (w : World) (g : Nat) (p0 p1 p2 p3 p4 p5 p6 p7 : Value) : Prop where
  c0 : w.cell? ⟨g, 0, none⟩ = some p0
  c1 : w.cell? ⟨g, 1, none⟩ = some p1
  c2 : w.cell? ⟨g, 2, none⟩ = some p2
  c3 : w.cell? ⟨g, 3, none⟩ = some p3
  c4 : w.cell? ⟨g, 4, none⟩ = some p4
  c5 : w.cell? ⟨g, 5, none⟩ = some p5
  c6 : w.cell? ⟨g, 6, none⟩ = some p6
  c7 : w.cell? ⟨g, 7, none⟩ = some p7
  lt : g < w.heap.size
theorem Box8.below {w w' : World} {g : Nat} {p0 p1 p2 p3 p4 p5 p6 p7 : Value} (h : Box8 w g p0 p1 p2 p3 p4 p5 p6 p7) (hb : Below w.heap.size w w') : Box8 w' g p0 p1 p2 p3 p4 p5 p6 p7 :=
  ⟨(hb.cell h.lt).trans h.c0, (hb.cell h.lt).trans h.c1, (hb.cell h.lt).trans h.c2, (hb.cell h.lt).trans h.c3, (hb.cell h.lt).trans h.c4, (hb.cell h.lt).trans h.c5, (hb.cell h.lt).trans h.c6, (hb.cell h.lt).trans h.c7, Nat.lt_of_lt_of_le h.lt hb.size⟩
theorem Box8.alloc (w : World) (p0 p1 p2 p3 p4 p5 p6 p7 : Value) (T : Nat) : Box8 (w.alloc (.cells #[p0, p1, p2, p3, p4, p5, p6, p7] T)) w.heap.size p0 p1 p2 p3 p4 p5 p6 p7 := by
  refine ⟨?_, ?_, ?_, ?_, ?_, ?_, ?_, ?_, by simp⟩ <;> (rw [World.cell?_alloc_at _ _ _ _ rfl]; rfl)

theorem zip_take_succ {α β : Type} {l : List α} {m : List β} {k : Nat} {x : α} {y : β} (hx : l[k]? = some x) (hy : m[k]? = some y) : (l.zip m).take (k + 1) = (l.zip m).take k ++ [(x, y)] := by
  have h : (l.zip m)[k]? = some (x, y) := by rw [List.getElem?_zip_eq_some]; exact ⟨hx, hy⟩
  rw [List.take_add_one, h]; rfl
theorem take_succ_at {α : Type} {l : List α} {k : Nat} {x : α} (hx : l[k]? = some x) : l.take (k + 1) = l.take k ++ [x] := by
  rw [List.take_add_one, hx]; rfl
theorem zip_mem {α β : Type} {l : List α} {m : List β} {k : Nat} {x : α} {y : β} (hx : l[k]? = some x) (hy : m[k]? = some y) : (x, y) ∈ l.zip m := by
  have h : (l.zip m)[k]? = some (x, y) := by rw [List.getElem?_zip_eq_some]; exact ⟨hx, hy⟩
  exact List.mem_of_getElem? h

end Go.Proofs.Ytfmhedfiklidhaa

/-
  The walk of kernel.bounds: by contract.
-/
namespace Go.Proofs.Ytfmhedfiklidhaa
open Go.RowKit

end Go.Proofs.Ytfmhedfiklidhaa

/-
  The canonical fields of a rational number, and what the operations on fields are on numbers. No Go in sight.
-/
namespace Go.Proofs.Ytfmhedfiklidhaa

/-- The number for which three fields stand. -/
def ratOf (x : RatL) : Rat := mkRat (sgn x.neg (lval x.num)) (underN x.den)
/-- The canonical fields of a number. -/
def ratL (q : Rat) : RatL := ⟨decide (q.num < 0), limbs q.num.natAbs, if q.den = 1 then [] else limbs q.den⟩

theorem sgn_natAbs (neg : Bool) (n : Nat) : (sgn neg n).natAbs = n := by cases neg <;> simp [sgn]
theorem quotN_ratL (neg : Bool) (n : Nat) {d : Nat} (hd : 0 < d) : quotN neg n d = ratL (mkRat (sgn neg n) d) := by
  have hg : 0 < Nat.gcd n d := Nat.gcd_pos_of_pos_right _ hd
  obtain ⟨k, hk⟩ := Nat.gcd_dvd_left n d
  rw [Rat.mkRat_def, dif_neg (by omega), Rat.normalize_eq]
  unfold quotN ratL
  simp only [sgn_natAbs]
  have e : sgn neg n / ((Nat.gcd n d : Nat) : Int) = sgn neg (n / Nat.gcd n d) := by
    generalize Nat.gcd n d = g at *
    subst hk
    rw [Nat.mul_div_cancel_left _ hg]
    cases neg
    · simp only [sgn]; simp; rw [Int.mul_ediv_cancel_left _ (by omega)]
    · simp only [sgn]; simp; rw [← Int.mul_neg, Int.mul_ediv_cancel_left _ (by omega)]
  rw [e, sgn_natAbs]
  congr 1
  have h0 : n = 0 ↔ n / Nat.gcd n d = 0 := by
    constructor
    · rintro rfl; simp
    · intro h
      generalize Nat.gcd n d = g at *
      subst hk
      rw [Nat.mul_div_cancel_left _ hg] at h
      rw [h, Nat.mul_zero]
  generalize n / Nat.gcd n d = q at *
  by_cases hn : n = 0
  · rw [h0.1 hn]; cases neg <;> simp [sgn, hn]
  · have hq : q ≠ 0 := fun h => hn (h0.2 h)
    cases neg
    · simp [sgn]
    · simp [sgn, hn]; omega
theorem canonL_ratL (x : RatL) : canonL x = ratL (ratOf x) := quotN_ratL _ _ (underN_pos _)
theorem ratL_lim (q : Rat) : (ratL q).Lim := by
  refine ⟨lim_limbs _, ?_⟩
  unfold ratL
  dsimp only
  split
  · intro d hd; simp at hd
  · exact lim_limbs _
theorem underN_ratL (q : Rat) : underN (ratL q).den = q.den := by
  unfold ratL underN
  dsimp only
  have := q.den_nz
  by_cases h : q.den = 1
  · rw [if_pos h, lval_nil, if_pos rfl, h]
  · rw [if_neg h, lval_limbs, if_neg this]
theorem sgn_ratL (q : Rat) : sgn (ratL q).neg (lval (ratL q).num) = q.num := by
  unfold ratL sgn
  dsimp only
  rw [lval_limbs]
  by_cases h : q.num < 0
  · rw [decide_eq_true h]; simp; omega
  · rw [decide_eq_false h]; simp; omega
theorem ratOf_ratL (q : Rat) : ratOf (ratL q) = q := by
  unfold ratOf; rw [underN_ratL, sgn_ratL, Rat.mkRat_self]
theorem ratL_inj {p q : Rat} (h : ratL p = ratL q) : p = q := by rw [← ratOf_ratL p, h, ratOf_ratL]
theorem valid_ratL (q : Rat) : ratL q = canonL (ratL q) := by rw [canonL_ratL, ratOf_ratL]
theorem neg_ratL (q : Rat) : (ratL q).neg = decide (q < 0) := by
  unfold ratL
  dsimp only
  rw [decide_eq_decide]
  have := @Rat.num_nonneg q
  rw [← Rat.not_le, ← this]
  omega

theorem sgn_mul (a b : Bool) (n m : Nat) : sgn (a != b) (n * m) = sgn a n * sgn b m := by
  cases a <;> cases b <;> simp [sgn, Int.neg_mul, Int.mul_neg]
theorem mulQ (a b : Bool) (n m d e : Nat) : mkRat (sgn (a != b) (n * m)) (d * e) = mkRat (sgn a n) d * mkRat (sgn b m) e := by
  rw [sgn_mul, Rat.mkRat_mul_mkRat]
theorem addQ (a b : Bool) (n m : Nat) {d e : Nat} (hd : 0 < d) (he : 0 < e) : mkRat (sgn a (n * e) + sgn b (m * d)) (d * e) = mkRat (sgn a n) d + mkRat (sgn b m) e := by
  rw [Rat.mkRat_add_mkRat _ _ (by omega) (by omega)]
  congr 1
  cases a <;> cases b <;> simp [sgn, Int.neg_mul]
theorem inv_mkRat' (b : Bool) (m e : Nat) : (mkRat (sgn b m) e)⁻¹ = mkRat (sgn b e) m := by
  rw [Rat.mkRat_eq_div, Rat.mkRat_eq_div, Rat.div_def, Rat.div_def, Rat.inv_mul_rev, Rat.inv_inv]
  cases b
  · rfl
  · have h : (-((m : Int) : Rat))⁻¹ = -((m : Int) : Rat)⁻¹ := by grind
    simp only [sgn, if_true, Rat.intCast_neg, h, Rat.mul_neg, Rat.neg_mul]
    rfl
theorem divQ (a b : Bool) (n m d e : Nat) : mkRat (sgn (a != b) (n * e)) (d * m) = mkRat (sgn a n) d / mkRat (sgn b m) e := by
  rw [Rat.div_def, inv_mkRat' b m e, sgn_mul, Rat.mkRat_mul_mkRat]
theorem sgn_not (a : Bool) (n : Nat) : sgn (!a) n = -sgn a n := by cases a <;> simp [sgn]
theorem negQ (a : Bool) (n d : Nat) : mkRat (sgn (!a) n) d = -mkRat (sgn a n) d := by rw [sgn_not, Rat.neg_mkRat]

/-- The sign of a number. -/
def signQ (q : Rat) : Int := if q < 0 then -1 else if 0 < q then 1 else 0
theorem mkRat_pos_iff {z : Int} {d : Nat} (hd : 0 < d) : 0 < mkRat z d ↔ 0 < z := by
  rw [Rat.mkRat_eq_div]
  have h : (0 : Rat) < (d : Rat) := by exact_mod_cast hd
  rw [Rat.lt_div_iff h, Rat.zero_mul]
  exact Rat.intCast_lt_intCast (a := 0)
theorem mkRat_neg_iff {z : Int} {d : Nat} (hd : 0 < d) : mkRat z d < 0 ↔ z < 0 := by
  rw [Rat.mkRat_eq_div]
  have h : (0 : Rat) < (d : Rat) := by exact_mod_cast hd
  rw [Rat.div_lt_iff h, Rat.zero_mul]
  exact Rat.intCast_lt_intCast (b := 0)
theorem signZ_signQ (x : RatL) : signZ x.neg (lval x.num) = signQ (ratOf x) := by
  unfold signQ ratOf
  simp only [mkRat_neg_iff (underN_pos _), mkRat_pos_iff (underN_pos _)]
  unfold signZ sgn
  cases x.neg <;> by_cases h : lval x.num = 0 <;> simp [h] <;> omega
theorem signQ_le (q : Rat) : signQ q ≤ 0 ↔ q ≤ 0 := by
  unfold signQ
  by_cases h1 : q < 0
  · rw [if_pos h1]; simp; exact Rat.le_of_lt h1
  · rw [if_neg h1]
    by_cases h2 : 0 < q
    · rw [if_pos h2]; simp; exact Rat.not_le.2 h2
    · rw [if_neg h2]; simp; exact Rat.not_lt.1 h2
/-- What Cmp says. -/
def cmpQ (p q : Rat) : Int := if p < q then -1 else if q < p then 1 else 0
theorem signQ_sub (p q : Rat) : signQ (p - q) = cmpQ p q := by
  unfold signQ cmpQ
  have h1 : p - q < 0 ↔ p < q := by grind
  have h2 : 0 < p - q ↔ q < p := by grind
  simp only [h1, h2]

end Go.Proofs.Ytfmhedfiklidhaa

/-
  How long the limbs of a rational number are, through the operations. No Go in sight.
-/
namespace Go.Proofs.Ytfmhedfiklidhaa

/-- Both lists of limbs are short. -/
structure RatLe (x : RatL) (k : Nat) : Prop where
  num : x.num.length ≤ k
  den : x.den.length ≤ k
/-- Numerator and denominator have at most k limbs. -/
structure QLe (q : Rat) (k : Nat) : Prop where
  num : q.num.natAbs < 4294967296 ^ k
  den : q.den < 4294967296 ^ k
theorem QLe.mono {q : Rat} {k m : Nat} (h : QLe q k) (hm : k ≤ m) : QLe q m :=
  ⟨Nat.lt_of_lt_of_le h.num (Nat.pow_le_pow_right (by omega) hm), Nat.lt_of_lt_of_le h.den (Nat.pow_le_pow_right (by omega) hm)⟩
theorem RatLe.mono {x : RatL} {k m : Nat} (h : RatLe x k) (hm : k ≤ m) : RatLe x m := ⟨Nat.le_trans h.num hm, Nat.le_trans h.den hm⟩
theorem QLe.mk' {z : Int} {d k : Nat} (h1 : z.natAbs < 4294967296 ^ k) (h2 : d < 4294967296 ^ k) (hd : 0 < d) : QLe (mkRat z d) k := by
  rw [Rat.mkRat_def, dif_neg (by omega), Rat.normalize_eq]
  refine ⟨Nat.lt_of_le_of_lt ?_ h1, Nat.lt_of_le_of_lt (Nat.div_le_self _ _) h2⟩
  rw [Int.natAbs_ediv_of_dvd (Int.ofNat_dvd_left.2 (Nat.gcd_dvd_left _ _))]
  exact Nat.div_le_self _ _
theorem QLe.ratL {q : Rat} {k : Nat} (h : QLe q k) : RatLe (ratL q) k := by
  refine ⟨limbs_len_le h.num, ?_⟩
  show (if q.den = 1 then [] else limbs q.den).length ≤ k
  split
  · simp
  · exact limbs_len_le h.den
theorem underN_lt {d : List Nat} {k : Nat} (hl : Lim d) (h : d.length ≤ k) : underN d < 4294967296 ^ (k + 1) := by
  have h1 := Nat.lt_of_lt_of_le (lval_lt hl) (Nat.pow_le_pow_right (show 0 < 4294967296 by omega) (show d.length ≤ k + 1 by omega))
  have h2 : 4294967296 ^ 1 ≤ 4294967296 ^ (k + 1) := Nat.pow_le_pow_right (by omega) (by omega)
  unfold underN
  split
  · omega
  · exact h1
theorem QLe.ratOf {x : RatL} {k : Nat} (hx : x.Lim) (h : RatLe x k) : QLe (ratOf x) (k + 1) := by
  refine QLe.mk' ?_ (underN_lt hx.2 h.den) (underN_pos _)
  rw [sgn_natAbs]
  exact Nat.lt_of_lt_of_le (lval_lt hx.1) (Nat.pow_le_pow_right (by omega) (Nat.le_succ_of_le h.num))
theorem QLe.neg {q : Rat} {k : Nat} (h : QLe q k) : QLe (-q) k := ⟨by rw [Rat.neg_num, Int.natAbs_neg]; exact h.num, by rw [Rat.neg_den]; exact h.den⟩
theorem QLe.mul {p q : Rat} {a b : Nat} (hp : QLe p a) (hq : QLe q b) : QLe (p * q) (a + b) := by
  rw [← Rat.mkRat_self p, ← Rat.mkRat_self q, Rat.mkRat_mul_mkRat]
  refine QLe.mk' ?_ ?_ (Nat.mul_pos p.den_pos q.den_pos)
  · rw [Int.natAbs_mul, Nat.pow_add]; exact Nat.mul_lt_mul'' hp.num hq.num
  · rw [Nat.pow_add]; exact Nat.mul_lt_mul'' hp.den hq.den
theorem QLe.add {p q : Rat} {a b : Nat} (hp : QLe p a) (hq : QLe q b) : QLe (p + q) (a + b + 1) := by
  rw [← Rat.mkRat_self p, ← Rat.mkRat_self q, Rat.mkRat_add_mkRat _ _ p.den_nz q.den_nz]
  have h1 : (p.num * (q.den : Int)).natAbs < 4294967296 ^ a * 4294967296 ^ b := by
    rw [Int.natAbs_mul, Int.natAbs_natCast]; exact Nat.mul_lt_mul'' hp.num hq.den
  have h2 : (q.num * (p.den : Int)).natAbs < 4294967296 ^ a * 4294967296 ^ b := by
    rw [Int.natAbs_mul, Int.natAbs_natCast, Nat.mul_comm (4294967296 ^ a)]; exact Nat.mul_lt_mul'' hq.num hp.den
  refine QLe.mk' ?_ ?_ (Nat.mul_pos p.den_pos q.den_pos)
  · have h3 := Int.natAbs_add_le (p.num * (q.den : Int)) (q.num * (p.den : Int))
    rw [Nat.pow_succ, Nat.pow_add]
    omega
  · have h3 := Nat.mul_lt_mul'' hp.den hq.den
    rw [Nat.pow_succ, Nat.pow_add]
    omega
theorem QLe.sub {p q : Rat} {a b : Nat} (hp : QLe p a) (hq : QLe q b) : QLe (p - q) (a + b + 1) := by
  rw [Rat.sub_eq_add_neg]; exact hp.add hq.neg
theorem QLe.inv {q : Rat} {k : Nat} (h : QLe q k) : QLe q⁻¹ k := by
  by_cases h0 : q = 0
  · subst h0; rw [Rat.inv_zero]; exact h
  · have hn : q.num ≠ 0 := fun e => h0 (Rat.num_eq_zero.1 e)
    have e : q⁻¹ = mkRat (sgn (decide (q.num < 0)) q.den) q.num.natAbs := by
      have h1 : q = mkRat (sgn (decide (q.num < 0)) q.num.natAbs) q.den := by
        have : sgn (decide (q.num < 0)) q.num.natAbs = q.num := by
          unfold sgn
          by_cases h : q.num < 0
          · rw [decide_eq_true h]; simp; omega
          · rw [decide_eq_false h]; simp; omega
        rw [this, Rat.mkRat_self]
      conv => lhs; rw [h1]
      rw [inv_mkRat']
    rw [e]
    exact QLe.mk' (by rw [sgn_natAbs]; exact h.den) h.num (by omega)
theorem QLe.div {p q : Rat} {a b : Nat} (hp : QLe p a) (hq : QLe q b) : QLe (p / q) (a + b) := by
  rw [Rat.div_def]; exact hp.mul hq.inv

end Go.Proofs.Ytfmhedfiklidhaa

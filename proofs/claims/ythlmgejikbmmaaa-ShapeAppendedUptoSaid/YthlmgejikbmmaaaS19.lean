/-
  Contracts of the functions that the statements reach, in the order in which they are built: RefP, RefQ, RefR, RefS, RefT.
-/
import Derived.Test.YthlmgejikbmmaaaS18
import Derived.Test.YthlmgejikbmmaaaS15
set_option linter.unusedVariables false
set_option linter.unusedSimpArgs false
set_option linter.constructorNameAsVariable false
set_option linter.deprecated false

/-
  The reference's Add of layer 3: by contract.
-/
namespace Go.Proofs.Ythlmgejikbmmaaa
open Go.RowKit

/-- A world behind W0, from block B on. -/
structure Fro (B : Nat) (W0 w : World) : Prop where
  base : B ≤ w.heap.size
  be : Below B W0 w
theorem Fro.start {B : Nat} {W0 : World} (h : B ≤ W0.heap.size) : Fro B W0 W0.drew := ⟨h, (Below.refl _ _).drew⟩
theorem Fro.alloc {B : Nat} {W0 w : World} (h : Fro B W0 w) (o : Obj) : Fro B W0 (w.alloc o) := ⟨by have := h.base; simp; omega, h.be.alloc h.base o⟩

/-- What the operations leave that make a boxed integer: a sign, and a product. -/
def prG (ga gb : Nat) (neg : Bool) (vn vd : Value) (N dn kd B : Nat) (i : Nat) (v : Value) (w : World) : Prop :=
  match i with
  | 0 => v = .pointer (some ⟨ga, 0, none⟩)
  | 1 => v = .bool neg
  | 2 => v = .pointer (some ⟨ga, 1, none⟩)
  | 3 => v = vn
  | 4 => v = .pointer (some ⟨gb, 2, none⟩)
  | 5 => v = vd
  | 6 => ∃ a c l, v = .slice a l.length c ∧ l.length ≤ c ∧ Hid (U32s w a l) ∧ Hid (lval l = dn) ∧ l.length ≤ kd
  | 7 => ∃ a c, v = .slice a (limbs N).length c ∧ (limbs N).length ≤ c ∧ Hid (U32s w a (limbs N))
  | 8 => ∃ a c, v = .agg #[.bool neg, .slice a (limbs N).length c] ∧ (limbs N).length ≤ c ∧ Hid (U32s w a (limbs N))
  | 9 => ∃ g, B ≤ g ∧ v = .pointer (some ⟨g, 0, none⟩) ∧ Box2 w g (.bool false) (.slice none 0 0) ∧ NoInt w g
  | _ => True
theorem prG_below {ga gb : Nat} {neg : Bool} {vn vd : Value} {N dn kd B i : Nat} {v : Value} {w w' : World} (h : prG ga gb neg vn vd N dn kd B i v w) (hb : Below w.heap.size w w') : prG ga gb neg vn vd N dn kd B i v w' := by
  match i, h with
  | 0, h => exact h
  | 1, h => exact h
  | 2, h => exact h
  | 3, h => exact h
  | 4, h => exact h
  | 5, h => exact h
  | 6, ⟨a, c, l, h1, h2, h3, h4, h5⟩ => exact ⟨a, c, l, h1, h2, h3.out.below hb, h4, h5⟩
  | 7, ⟨a, c, h1, h2, h3⟩ => exact ⟨a, c, h1, h2, h3.out.below hb⟩
  | 8, ⟨a, c, h1, h2, h3⟩ => exact ⟨a, c, h1, h2, h3.out.below hb⟩
  | 9, ⟨g, h1, h2, h3, h4⟩ => exact ⟨g, h1, h2, h3.below hb, h4.below hb h3.lt⟩
  | _ + 10, _ => trivial

theorem TwoR.below {w W W' : World} {g : Nat} {p q r s t u : Value} (h : TwoR w W g p q r s t u) (hb : Below W.heap.size W W') : TwoR w W' g p q r s t u :=
  ⟨h.a.below hb, h.b.below hb, h.c.below hb, h.nc.below hb h.c.lt, h.bl.trans (hb.mono (by have := h.a.lt; omega))⟩
theorem Box2.store {w : World} {g : Nat} {p q : Value} (h : Box2 w g p q) (p' q' : Value) : Box2 ((w.setCell ⟨g, 0, none⟩ p').setCell ⟨g, 1, none⟩ q') g p' q' := by
  refine ⟨?_, ?_, ?_, ?_⟩
  · rw [World.cell?_setCell_other _ _ _ _ (by intro e; cases e)]
    exact World.cell?_setCell_same _ _ _ h.c0
  · refine World.cell?_setCell_same _ _ _ (u := q) ?_
    rw [World.cell?_setCell_other _ _ _ _ (by intro e; cases e)]
    exact h.c1
  · intro o
    simp [World.frozen?_setCell, h.free]
  · simpa using h.lt
theorem U32s.store2 {w : World} {g : Nat} {a : Option Addr} {l : List Nat} (h : U32s w a l) (hN : NoInt w g) (b : Bool) (x : Option Addr) (n c : Nat) : U32s ((w.setCell ⟨g, 0, none⟩ (.bool b)).setCell ⟨g, 1, none⟩ (.slice x n c)) a l :=
  (h.setCell hN _ _).setCell (hN.setCell _ _ (by simp)) _ _

theorem sgn_of_int (z : Int) : sgn (decide (z < 0)) z.natAbs = z := by
  unfold sgn
  by_cases h : z < 0
  · rw [decide_eq_true h]; simp; omega
  · rw [decide_eq_false h]; simp; omega
theorem underLen (d : List Nat) (h : Lim d) : (limbs (underN d)).length ≤ d.length + 1 := by
  unfold underN
  split
  · rw [limbs_one]; simp
  · have := limbs_len_of_lval h; omega
theorem S4_keep {w W w1 : World} {gs g : Nat} {p q a b c d e f : Value} (h : Box2 W gs p q) (hF : TwoR w W g a b c d e f) (hb : Below W.heap.size W w1) :
    w1.cell? ⟨gs, 0, none⟩ = some p ∧ w1.cell? ⟨gs, 1, none⟩ = some q ∧ w1.cell? ⟨g, 2, none⟩ = some c ∧ w1.cell? ⟨g + 1, 2, none⟩ = some f :=
  ⟨(hb.cell h.lt).trans h.c0, (hb.cell h.lt).trans h.c1, (hb.cell hF.a.lt).trans hF.a.c2, (hb.cell hF.b.lt).trans hF.b.c2⟩
theorem S4_store {w W w1 : World} {gs g : Nat} {p q a b c d e f : Value} (h : Box2 W gs p q) (hF : TwoR w W g a b c d e f) (hb : Below W.heap.size W w1) (hne : g + 1 + 1 < gs) (x y z : Value) :
    (((w1.setCell ⟨g + 1 + 1, 0, none⟩ x).setCell ⟨g + 1 + 1, 1, none⟩ y).setCell ⟨g + 1 + 1, 2, none⟩ z).cell? ⟨gs, 0, none⟩ = some p ∧ (((w1.setCell ⟨g + 1 + 1, 0, none⟩ x).setCell ⟨g + 1 + 1, 1, none⟩ y).setCell ⟨g + 1 + 1, 2, none⟩ z).cell? ⟨gs, 1, none⟩ = some q ∧
    (((w1.setCell ⟨g + 1 + 1, 0, none⟩ x).setCell ⟨g + 1 + 1, 1, none⟩ y).setCell ⟨g + 1 + 1, 2, none⟩ z).cell? ⟨g, 2, none⟩ = some c ∧ (((w1.setCell ⟨g + 1 + 1, 0, none⟩ x).setCell ⟨g + 1 + 1, 1, none⟩ y).setCell ⟨g + 1 + 1, 2, none⟩ z).cell? ⟨g + 1, 2, none⟩ = some f := by
  obtain ⟨h1, h2, h3, h4⟩ := S4_keep h hF hb
  refine ⟨?_, ?_, ?_, ?_⟩ <;> rw [far2 (by omega), far2 (by omega), far2 (by omega)] <;> assumption

set_option maxRecDepth 100000 in
set_option maxHeartbeats 6400000 in
theorem r3Add {w : World} {v u : Value} {x y : RatL} (hv : RatV w v x) (hu : RatV w u y) (hx : RatLe x 524286) (hy : RatLe y 524286) :
    Calls Try.prog 96 #[v, u] w (RetR w (ratL (ratOf x + ratOf y))) := by
  obtain ⟨an, ad, cn, cd, rfl, a2, a3, a4, a5⟩ := hv.ex
  obtain ⟨bn, bd, dn, dd, rfl, b2, b3, b4, b5⟩ := hu.ex
  obtain ⟨hx1, hx2⟩ := hx
  obtain ⟨hy1, hy2⟩ := hy
  have hl1 := a4.len
  have hl2 := a5.len
  have hl3 := b4.len
  have hl4 := b5.len
  have A4 := Lib.hid a4
  have A5 := Lib.hid a5
  have B4 := Lib.hid b4
  have B5 := Lib.hid b5
  have HNUMx := Lib.hid a4.lim
  have HDENx := Lib.hid a5.lim
  have HNUMy := Lib.hid b4.lim
  have HDENy := Lib.hid b5.lim
  clear hv hu a4 a5 b4 b5
  go_enter Try.func96, Try.ntmps96
  go_upto_region 1 with fail
  have hF := TwoR.mk' w (.bool x.neg) (.slice an x.num.length cn) (.slice ad x.den.length cd) (.bool y.neg) (.slice bn y.num.length dn) (.slice bd y.den.length dd) 78
  generalize ((w.alloc (.cells #[.bool x.neg, .slice an x.num.length cn, .slice ad x.den.length cd] 78)).alloc (.cells #[.bool y.neg, .slice bn y.num.length dn, .slice bd y.den.length dd] 78)).alloc (.cells #[.bool false, .slice none 0 0, .slice none 0 0] 78) = W at *
  have HF := Lib.hid hF
  have HA4 := Lib.hid (A4.out.below hF.bl)
  have HA5 := Lib.hid (A5.out.below hF.bl)
  have HB4 := Lib.hid (B4.out.below hF.bl)
  have HB5 := Lib.hid (B5.out.below hF.bl)
  clear hF A4 A5 B4 B5
  refine wp_region_slots_lit (by kernel_rfl) (by kernel_rfl) (by kernel_rfl) (by kernel_rfl) (by kernel_rfl) (Fro W.heap.size W) (fun w w' => Below w.heap.size w w') (prG (w.heap.size) (w.heap.size + 1) x.neg (.slice an x.num.length cn) (.slice bd y.den.length dd) (lval x.num * underN y.den) (underN y.den) (y.den.length + 1) W.heap.size) (fun i v w w' h hb => prG_below h hb) (Fro.start (Nat.le_refl _)) ?_ ?_
  · intro ops
    simp only [List.dropLast, Shows]
    refine ⟨?_, ?_, ?_, ?_, ?_, ?_, ?_, ?_, ?_, ?_, trivial⟩
    · intro g V hR hL
      have hB := hR.base
      obtain ⟨q0, q1, q2, q3, q4, q5⟩ := S33_keep HF.out.a HF.out.b HF.out.a.lt HF.out.b.lt hR.be
      simp only [Laid, Region.binds, forall_const, Bool.false_eq_true, false_implies, prG] at hL
      simp [fillFrom, Act.put]
      clear hL
      have HR := Lib.hid hR
      clear hR
      go_wp2
      exact ⟨_, rfl, HR.out, Below.refl _ _, rfl⟩
    · intro g V hR hL
      have hB := hR.base
      obtain ⟨q0, q1, q2, q3, q4, q5⟩ := S33_keep HF.out.a HF.out.b HF.out.a.lt HF.out.b.lt hR.be
      simp only [Laid, Region.binds, forall_const, Bool.false_eq_true, false_implies, prG] at hL
      simp [fillFrom, Act.put]
      generalize g 0 = y0 at hL ⊢
      obtain ⟨rfl, _⟩ := hL
      have HR := Lib.hid hR
      clear hR
      go_wp2
      exact ⟨_, rfl, HR.out, Below.refl _ _, rfl⟩
    · intro g V hR hL
      have hB := hR.base
      obtain ⟨q0, q1, q2, q3, q4, q5⟩ := S33_keep HF.out.a HF.out.b HF.out.a.lt HF.out.b.lt hR.be
      simp only [Laid, Region.binds, forall_const, Bool.false_eq_true, false_implies, prG] at hL
      simp [fillFrom, Act.put]
      clear hL
      have HR := Lib.hid hR
      clear hR
      go_wp2
      exact ⟨_, rfl, HR.out, Below.refl _ _, rfl⟩
    · intro g V hR hL
      have hB := hR.base
      obtain ⟨q0, q1, q2, q3, q4, q5⟩ := S33_keep HF.out.a HF.out.b HF.out.a.lt HF.out.b.lt hR.be
      simp only [Laid, Region.binds, forall_const, Bool.false_eq_true, false_implies, prG] at hL
      simp [fillFrom, Act.put]
      generalize g 2 = y2 at hL ⊢
      obtain ⟨rfl, _⟩ := hL
      have HR := Lib.hid hR
      clear hR
      go_wp2
      exact ⟨_, rfl, HR.out, Below.refl _ _, rfl⟩
    · intro g V hR hL
      have hB := hR.base
      obtain ⟨q0, q1, q2, q3, q4, q5⟩ := S33_keep HF.out.a HF.out.b HF.out.a.lt HF.out.b.lt hR.be
      simp only [Laid, Region.binds, forall_const, Bool.false_eq_true, false_implies, prG] at hL
      simp [fillFrom, Act.put]
      clear hL
      have HR := Lib.hid hR
      clear hR
      go_wp2
      exact ⟨_, rfl, HR.out, Below.refl _ _, rfl⟩
    · intro g V hR hL
      have hB := hR.base
      obtain ⟨q0, q1, q2, q3, q4, q5⟩ := S33_keep HF.out.a HF.out.b HF.out.a.lt HF.out.b.lt hR.be
      simp only [Laid, Region.binds, forall_const, Bool.false_eq_true, false_implies, prG] at hL
      simp [fillFrom, Act.put]
      generalize g 4 = y4 at hL ⊢
      obtain ⟨rfl, _⟩ := hL
      have HR := Lib.hid hR
      clear hR
      go_wp2
      exact ⟨_, rfl, HR.out, Below.refl _ _, rfl⟩
    · intro g V hR hL
      have hB := hR.base
      obtain ⟨q0, q1, q2, q3, q4, q5⟩ := S33_keep HF.out.a HF.out.b HF.out.a.lt HF.out.b.lt hR.be
      simp only [Laid, Region.binds, forall_const, Bool.false_eq_true, false_implies, prG] at hL
      simp [fillFrom, Act.put]
      generalize g 5 = y5 at hL ⊢
      obtain ⟨rfl, _⟩ := hL
      have HR := Lib.hid hR
      clear hR
      go_wp2_with fail
      refine (r3one dd b3 (HB5.out.below HR.out.be) (by omega)).mono ?_
      rintro e w1 ⟨a1, c1, l1, rfl, p1, p2, p3, p4, p5⟩
      have HP2 := Lib.hid p2
      have HP3 := Lib.hid p3
      have HP5 := Lib.hid p5
      clear p2 p3 p5 q0 q1 q2 q3 q4 q5
      go_wp2
      exact ⟨_, rfl, ⟨Nat.le_trans hB HP5.out.size, HR.out.be.trans (HP5.out.mono hB)⟩, HP5.out, a1, c1, l1, rfl, p1, HP2, HP3, p4⟩
    · intro g V hR hL
      have hB := hR.base
      obtain ⟨q0, q1, q2, q3, q4, q5⟩ := S33_keep HF.out.a HF.out.b HF.out.a.lt HF.out.b.lt hR.be
      simp only [Laid, Region.binds, forall_const, Bool.false_eq_true, false_implies, prG] at hL
      simp [fillFrom, Act.put]
      generalize g 3 = y3 at hL ⊢
      generalize g 6 = y6 at hL ⊢
      obtain ⟨rfl, ⟨a1, c1, l1, rfl, p1, HP2, HP3, p4⟩, _, _⟩ := hL
      have HR := Lib.hid hR
      clear hR
      go_wp2_with fail
      refine (r1Mul cn c1 (HA4.out.below HR.out.be) HP2.out rfl HP3.out (by omega)).mono ?_
      rintro e w1 ⟨a2, c2, rfl, g1, g2, g3, _⟩
      have HG2 := Lib.hid g2
      have HG3 := Lib.hid g3
      clear g2 g3 q0 q1 q2 q3 q4 q5
      go_wp2
      exact ⟨_, rfl, ⟨Nat.le_trans hB HG3.out.size, HR.out.be.trans (HG3.out.mono hB)⟩, HG3.out, a2, c2, rfl, g1, HG2⟩
    · intro g V hR hL
      have hB := hR.base
      obtain ⟨q0, q1, q2, q3, q4, q5⟩ := S33_keep HF.out.a HF.out.b HF.out.a.lt HF.out.b.lt hR.be
      simp only [Laid, Region.binds, forall_const, Bool.false_eq_true, false_implies, prG] at hL
      simp [fillFrom, Act.put]
      generalize g 1 = y1 at hL ⊢
      generalize g 7 = y7 at hL ⊢
      obtain ⟨rfl, ⟨a2, c2, rfl, g1, HG2⟩, _⟩ := hL
      have HR := Lib.hid hR
      clear hR
      go_wp2
      exact ⟨_, rfl, HR.out, Below.refl _ _, a2, c2, rfl, g1, HG2⟩
    · intro g V hR hL
      have hB := hR.base
      obtain ⟨q0, q1, q2, q3, q4, q5⟩ := S33_keep HF.out.a HF.out.b HF.out.a.lt HF.out.b.lt hR.be
      simp only [Laid, Region.binds, forall_const, Bool.false_eq_true, false_implies, prG] at hL
      simp [fillFrom, Act.put]
      clear hL
      have HR := Lib.hid hR
      clear hR
      go_wp2
      exact ⟨_, rfl, HR.out.alloc _, (Below.refl V.heap.size V).alloc (Nat.le_refl _) _, V.heap.size, hB, rfl, Box2.alloc _ _ _ _, NoInt.alloc V _ _ (by simp)⟩
  intro ops g W1 hR hL
  simp only [List.dropLast, List.getLastD_cons, List.getLastD_nil, fillFrom, Act.put, List.length_cons, List.length_nil, Nat.reduceAdd, LaidAll] at hL ⊢
  have hB1 := hR.base
  have HV := hL.1.2
  have HP := hL.2
  simp only [prG] at HV HP
  clear hL
  generalize g 8 = yv at HV ⊢
  generalize g 9 = yp at HP ⊢
  obtain ⟨ak1, ck1, rfl, g11, HG21⟩ := HV
  obtain ⟨gp1, hgp1, rfl, hbx, hno⟩ := HP
  have HBX1 := Lib.hid hbx
  have HNO1 := Lib.hid hno
  obtain ⟨e0, e1, ef, elt⟩ := hbx
  have HR1 := Lib.hid hR
  clear hR hno
  go_upto_region 2 with fail
  have hbw := below_store2 (p := .bool x.neg) (q := .slice ak1 (limbs (lval x.num * underN y.den)).length ck1) HR1.out.be hgp1
  have HBX1' := HBX1.out.store (.bool x.neg) (.slice ak1 (limbs (lval x.num * underN y.den)).length ck1)
  have hu1 := HG21.out.store2 HNO1.out x.neg ak1 (limbs (lval x.num * underN y.den)).length ck1
  generalize (W1.setCell ⟨gp1, 0, none⟩ (.bool x.neg)).setCell ⟨gp1, 1, none⟩ (.slice ak1 (limbs (lval x.num * underN y.den)).length ck1) = W2 at *
  have HX2 := Lib.hid HBX1'
  have HU2 := Lib.hid hu1
  have HF2 := Lib.hid (HF.out.below hbw)
  have HA52 := Lib.hid (HA5.out.below hbw)
  have HB42 := Lib.hid (HB4.out.below hbw)
  have HB52 := Lib.hid (HB5.out.below hbw)
  clear hbw HBX1' hu1 HBX1 HNO1 HR1 HG21 e0 e1 ef elt HA5 HB4 HB5 HA4 HF hgp1 hB1
  refine wp_region_slots_lit (by kernel_rfl) (by kernel_rfl) (by kernel_rfl) (by kernel_rfl) (by kernel_rfl) (Fro W2.heap.size W2) (fun w w' => Below w.heap.size w w') (prG (w.heap.size + 1) (w.heap.size) y.neg (.slice bn y.num.length dn) (.slice ad x.den.length cd) (lval y.num * underN x.den) (underN x.den) (x.den.length + 1) W2.heap.size) (fun i v w w' h hb => prG_below h hb) (Fro.start (Nat.le_refl _)) ?_ ?_
  · intro ops
    simp only [List.dropLast, Shows]
    refine ⟨?_, ?_, ?_, ?_, ?_, ?_, ?_, ?_, ?_, ?_, trivial⟩
    · intro g V hR hL
      have hB := hR.base
      obtain ⟨q0, q1, q2, q3, q4, q5⟩ := S33_keep HF2.out.a HF2.out.b HF2.out.a.lt HF2.out.b.lt hR.be
      simp only [Laid, Region.binds, forall_const, Bool.false_eq_true, false_implies, prG] at hL
      simp [fillFrom, Act.put]
      clear hL
      have HR := Lib.hid hR
      clear hR
      go_wp2
      exact ⟨_, rfl, HR.out, Below.refl _ _, rfl⟩
    · intro g V hR hL
      have hB := hR.base
      obtain ⟨q0, q1, q2, q3, q4, q5⟩ := S33_keep HF2.out.a HF2.out.b HF2.out.a.lt HF2.out.b.lt hR.be
      simp only [Laid, Region.binds, forall_const, Bool.false_eq_true, false_implies, prG] at hL
      simp [fillFrom, Act.put]
      generalize g 0 = y0 at hL ⊢
      obtain ⟨rfl, _⟩ := hL
      have HR := Lib.hid hR
      clear hR
      go_wp2
      exact ⟨_, rfl, HR.out, Below.refl _ _, rfl⟩
    · intro g V hR hL
      have hB := hR.base
      obtain ⟨q0, q1, q2, q3, q4, q5⟩ := S33_keep HF2.out.a HF2.out.b HF2.out.a.lt HF2.out.b.lt hR.be
      simp only [Laid, Region.binds, forall_const, Bool.false_eq_true, false_implies, prG] at hL
      simp [fillFrom, Act.put]
      clear hL
      have HR := Lib.hid hR
      clear hR
      go_wp2
      exact ⟨_, rfl, HR.out, Below.refl _ _, rfl⟩
    · intro g V hR hL
      have hB := hR.base
      obtain ⟨q0, q1, q2, q3, q4, q5⟩ := S33_keep HF2.out.a HF2.out.b HF2.out.a.lt HF2.out.b.lt hR.be
      simp only [Laid, Region.binds, forall_const, Bool.false_eq_true, false_implies, prG] at hL
      simp [fillFrom, Act.put]
      generalize g 2 = y2 at hL ⊢
      obtain ⟨rfl, _⟩ := hL
      have HR := Lib.hid hR
      clear hR
      go_wp2
      exact ⟨_, rfl, HR.out, Below.refl _ _, rfl⟩
    · intro g V hR hL
      have hB := hR.base
      obtain ⟨q0, q1, q2, q3, q4, q5⟩ := S33_keep HF2.out.a HF2.out.b HF2.out.a.lt HF2.out.b.lt hR.be
      simp only [Laid, Region.binds, forall_const, Bool.false_eq_true, false_implies, prG] at hL
      simp [fillFrom, Act.put]
      clear hL
      have HR := Lib.hid hR
      clear hR
      go_wp2
      exact ⟨_, rfl, HR.out, Below.refl _ _, rfl⟩
    · intro g V hR hL
      have hB := hR.base
      obtain ⟨q0, q1, q2, q3, q4, q5⟩ := S33_keep HF2.out.a HF2.out.b HF2.out.a.lt HF2.out.b.lt hR.be
      simp only [Laid, Region.binds, forall_const, Bool.false_eq_true, false_implies, prG] at hL
      simp [fillFrom, Act.put]
      generalize g 4 = y4 at hL ⊢
      obtain ⟨rfl, _⟩ := hL
      have HR := Lib.hid hR
      clear hR
      go_wp2
      exact ⟨_, rfl, HR.out, Below.refl _ _, rfl⟩
    · intro g V hR hL
      have hB := hR.base
      obtain ⟨q0, q1, q2, q3, q4, q5⟩ := S33_keep HF2.out.a HF2.out.b HF2.out.a.lt HF2.out.b.lt hR.be
      simp only [Laid, Region.binds, forall_const, Bool.false_eq_true, false_implies, prG] at hL
      simp [fillFrom, Act.put]
      generalize g 5 = y5 at hL ⊢
      obtain ⟨rfl, _⟩ := hL
      have HR := Lib.hid hR
      clear hR
      go_wp2_with fail
      refine (r3one cd a3 (HA52.out.below HR.out.be) (by omega)).mono ?_
      rintro e w1 ⟨a1, c1, l1, rfl, p1, p2, p3, p4, p5⟩
      have HP2 := Lib.hid p2
      have HP3 := Lib.hid p3
      have HP5 := Lib.hid p5
      clear p2 p3 p5 q0 q1 q2 q3 q4 q5
      go_wp2
      exact ⟨_, rfl, ⟨Nat.le_trans hB HP5.out.size, HR.out.be.trans (HP5.out.mono hB)⟩, HP5.out, a1, c1, l1, rfl, p1, HP2, HP3, p4⟩
    · intro g V hR hL
      have hB := hR.base
      obtain ⟨q0, q1, q2, q3, q4, q5⟩ := S33_keep HF2.out.a HF2.out.b HF2.out.a.lt HF2.out.b.lt hR.be
      simp only [Laid, Region.binds, forall_const, Bool.false_eq_true, false_implies, prG] at hL
      simp [fillFrom, Act.put]
      generalize g 3 = y3 at hL ⊢
      generalize g 6 = y6 at hL ⊢
      obtain ⟨rfl, ⟨a1, c1, l1, rfl, p1, HP2, HP3, p4⟩, _, _⟩ := hL
      have HR := Lib.hid hR
      clear hR
      go_wp2_with fail
      refine (r1Mul dn c1 (HB42.out.below HR.out.be) HP2.out rfl HP3.out (by omega)).mono ?_
      rintro e w1 ⟨a2, c2, rfl, g1, g2, g3, _⟩
      have HG2 := Lib.hid g2
      have HG3 := Lib.hid g3
      clear g2 g3 q0 q1 q2 q3 q4 q5
      go_wp2
      exact ⟨_, rfl, ⟨Nat.le_trans hB HG3.out.size, HR.out.be.trans (HG3.out.mono hB)⟩, HG3.out, a2, c2, rfl, g1, HG2⟩
    · intro g V hR hL
      have hB := hR.base
      obtain ⟨q0, q1, q2, q3, q4, q5⟩ := S33_keep HF2.out.a HF2.out.b HF2.out.a.lt HF2.out.b.lt hR.be
      simp only [Laid, Region.binds, forall_const, Bool.false_eq_true, false_implies, prG] at hL
      simp [fillFrom, Act.put]
      generalize g 1 = y1 at hL ⊢
      generalize g 7 = y7 at hL ⊢
      obtain ⟨rfl, ⟨a2, c2, rfl, g1, HG2⟩, _⟩ := hL
      have HR := Lib.hid hR
      clear hR
      go_wp2
      exact ⟨_, rfl, HR.out, Below.refl _ _, a2, c2, rfl, g1, HG2⟩
    · intro g V hR hL
      have hB := hR.base
      obtain ⟨q0, q1, q2, q3, q4, q5⟩ := S33_keep HF2.out.a HF2.out.b HF2.out.a.lt HF2.out.b.lt hR.be
      simp only [Laid, Region.binds, forall_const, Bool.false_eq_true, false_implies, prG] at hL
      simp [fillFrom, Act.put]
      clear hL
      have HR := Lib.hid hR
      clear hR
      go_wp2
      exact ⟨_, rfl, HR.out.alloc _, (Below.refl V.heap.size V).alloc (Nat.le_refl _) _, V.heap.size, hB, rfl, Box2.alloc _ _ _ _, NoInt.alloc V _ _ (by simp)⟩
  intro ops g W3 hR hL
  simp only [List.dropLast, List.getLastD_cons, List.getLastD_nil, fillFrom, Act.put, List.length_cons, List.length_nil, Nat.reduceAdd, LaidAll] at hL ⊢
  have hB2 := hR.base
  have HV := hL.1.2
  have HP := hL.2
  simp only [prG] at HV HP
  clear hL
  generalize g 8 = yv at HV ⊢
  generalize g 9 = yp at HP ⊢
  obtain ⟨ak2, ck2, rfl, g12, HG22⟩ := HV
  obtain ⟨gp2, hgp2, rfl, hbx, hno⟩ := HP
  have HBX2 := Lib.hid hbx
  have HNO2 := Lib.hid hno
  obtain ⟨e0, e1, ef, elt⟩ := hbx
  have HR2 := Lib.hid hR
  clear hR hno
  go_upto_region 3 with fail
  have hbw := below_store2 (p := .bool y.neg) (q := .slice ak2 (limbs (lval y.num * underN x.den)).length ck2) HR2.out.be hgp2
  have hb2 := HBX2.out.store (.bool y.neg) (.slice ak2 (limbs (lval y.num * underN x.den)).length ck2)
  have hu2 := HG22.out.store2 HNO2.out y.neg ak2 (limbs (lval y.num * underN x.den)).length ck2
  generalize (W3.setCell ⟨gp2, 0, none⟩ (.bool y.neg)).setCell ⟨gp2, 1, none⟩ (.slice ak2 (limbs (lval y.num * underN x.den)).length ck2) = W4 at *
  obtain ⟨x0, x1, _, xlt⟩ := HX2.out.below hbw
  obtain ⟨y0, y1, _, ylt⟩ := hb2
  have HF4 := Lib.hid (HF2.out.below hbw)
  have HA54 := Lib.hid (HA52.out.below hbw)
  have HB54 := Lib.hid (HB52.out.below hbw)
  have hi1 : IntV W4 (.agg #[.bool x.neg, .slice ak1 (limbs (lval x.num * underN y.den)).length ck1]) x.neg (lval x.num * underN y.den) (limbs (lval x.num * underN y.den)).length := ⟨ak1, ck1, _, rfl, g11, HU2.out.below hbw, lval_limbs _, Nat.le_refl _⟩
  have hi2 : IntV W4 (.agg #[.bool y.neg, .slice ak2 (limbs (lval y.num * underN x.den)).length ck2]) y.neg (lval y.num * underN x.den) (limbs (lval y.num * underN x.den)).length := ⟨ak2, ck2, _, rfl, g12, hu2, lval_limbs _, Nat.le_refl _⟩
  have hl1 : (limbs (lval x.num * underN y.den)).length ≤ 1048575 := Nat.le_trans (mul_len rfl (lval_limbs _) (Nat.le_refl _) (Nat.le_refl _) HNUMx.out (lim_limbs _)) (by have := underLen y.den HDENy.out; omega)
  have hl2 : (limbs (lval y.num * underN x.den)).length ≤ 1048575 := Nat.le_trans (mul_len rfl (lval_limbs _) (Nat.le_refl _) (Nat.le_refl _) HNUMy.out (lim_limbs _)) (by have := underLen x.den HDENx.out; omega)
  have hAd := r2Add hi1 hi2 (by omega) (by omega)
  have HAd := Lib.hid hAd
  have HQ : Hid (ratL (ratOf x + ratOf y) = quotN (decide (sgn x.neg (lval x.num * underN y.den) + sgn y.neg (lval y.num * underN x.den) < 0)) (sgn x.neg (lval x.num * underN y.den) + sgn y.neg (lval y.num * underN x.den)).natAbs (underN x.den * underN y.den)) := by
    unfold Hid
    rw [quotN_ratL _ _ (Nat.mul_pos (underN_pos _) (underN_pos _)), sgn_of_int, addQ _ _ _ _ (underN_pos _) (underN_pos _)]
    rfl
  have hlz : (limbs (sgn x.neg (lval x.num * underN y.den) + sgn y.neg (lval y.num * underN x.den)).natAbs).length ≤ 1048576 := by
    refine Nat.le_trans (limbs_len_mono (b := lval (limbs (lval x.num * underN y.den)) + lval (limbs (lval y.num * underN x.den))) ?_) (add_len (lim_limbs _) (lim_limbs _) hl1 hl2)
    rw [lval_limbs, lval_limbs]
    generalize lval x.num * underN y.den = p
    generalize lval y.num * underN x.den = q
    cases x.neg <;> cases y.neg <;> simp [sgn] <;> omega
  generalize sgn x.neg (lval x.num * underN y.den) + sgn y.neg (lval y.num * underN x.den) = z at *
  clear hbw hu2 HX2 HU2 HF2 HA52 HB42 HB52 HBX2 HNO2 HR2 HG22 e0 e1 ef elt hi1 hi2 hl1 hl2 hAd hgp2 hB2
  go_wp2_with fail
  refine HAd.out.mono ?_
  rintro e W5 ⟨v5, rfl, ⟨a5', c5, rfl, f1, f2⟩, hb5⟩
  have F2 := Lib.hid f2
  have HF5 := Lib.hid (HF4.out.below hb5)
  have HA55 := Lib.hid (HA54.out.below hb5)
  have HB55 := Lib.hid (HB54.out.below hb5)
  clear f2 hb5 HAd HF4 HA54 HB54 x0 x1 xlt y0 y1 ylt
  generalize hzb : decide (z < 0) = zb at *
  generalize hzn : z.natAbs = zn at *
  clear hzb hzn
  go_upto_region 4 with fail
  have hal : Below W5.heap.size W5 (W5.alloc (.cells #[.bool zb, .slice a5' (limbs zn).length c5] 106)) := (Below.refl _ _).alloc (Nat.le_refl _) _
  have hbx := Box2.alloc W5 (.bool zb) (.slice a5' (limbs zn).length c5) 106
  have HGS := Lib.hid (HF5.out.c.lt)
  generalize hgs : W5.heap.size = gs at *
  have hgs5 : W5.heap.size ≤ gs := by omega
  generalize W5.alloc (.cells #[.bool zb, .slice a5' (limbs zn).length c5] 106) = W6 at *
  rw [← hgs] at hal
  have HF6 := Lib.hid (HF5.out.below hal)
  have HA56 := Lib.hid (HA55.out.below hal)
  have HB56 := Lib.hid (HB55.out.below hal)
  have F26 := Lib.hid (F2.out.below hal)
  have HS6 := Lib.hid hbx
  have xbl : Below W6.heap.size W6 W6.drew := (Below.refl _ _).drew
  have tok2 : True := trivial
  have HDp := Lib.hid (Nat.mul_pos (underN_pos x.den) (underN_pos y.den))
  clear hal hbx hgs hgs5 HF5 HA55 HB55 F2
  go_region_held3 (fun w' => w'.cell? ⟨gs, 0, none⟩ = some (.bool zb) ∧ w'.cell? ⟨gs, 1, none⟩ = some (.slice a5' (limbs zn).length c5) ∧ w'.cell? ⟨w.heap.size, 2, none⟩ = some (.slice ad x.den.length cd) ∧ w'.cell? ⟨w.heap.size + 1, 2, none⟩ = some (.slice bd y.den.length dd))
    (first | exact S4_keep HS6.out HF6.out ‹Below W6.heap.size W6 _› | exact S4_store HS6.out HF6.out hS5 HGS.out _ _ _)
    (first
      | (go_at_call 103; have _t := tok2; clear tok2; have hS := ‹Below W6.heap.size W6 _›; refine (r3one cd a3 (HA56.out.below hS) (by omega)).mono ?_; rintro e w2 ⟨a2', c2, l2, rfl, p1, p2, p3, p4, p5⟩
         have hS2 := hS.trans (p5.mono hS.size); have P2 := Lib.hid p2; have P3 := Lib.hid p3; clear p2 p3)
      | (go_at_call 103; have hS := ‹Below W6.heap.size W6 _›; refine (r3one dd b3 (HB56.out.below hS) (by omega)).mono ?_; rintro e w3 ⟨a3', c3, l3, rfl, q1, q2, q3, q4, q5⟩
         have hS3 := hS.trans (q5.mono hS.size); have P2b := Lib.hid (P2.out.below q5); have Q2 := Lib.hid q2; have Q3 := Lib.hid q3; clear q2 q3)
      | (go_at_call 102; have hS := ‹Below W6.heap.size W6 _›; refine (r1Mul c2 c3 P2b.out Q2.out P3.out Q3.out (by omega)).mono ?_; rintro e w4 ⟨a4, c4, rfl, t1, t2, t3, _⟩
         have hS4 := hS.trans (t3.mono hS.size); have T2 := Lib.hid t2; clear t2
         have hdl : (limbs (underN x.den * underN y.den)).length ≤ 2097152 := Nat.le_trans (mul_len P3.out Q3.out p4 q4 P2b.out.lim Q2.out.lim) (by omega))
      | (go_at_call 101; have hS := ‹Below W6.heap.size W6 _›; refine (r3quot zb c5 c4 f1 t1 (F26.out.below hS) T2.out (lval_limbs _) (lval_limbs _) (by omega) hdl HDp.out).mono ?_
         rintro e w5 ⟨v5, rfl, ⟨bn', bd', m1, m2, rfl, k3, k4, k5, k6⟩, k2⟩
         have hS5 := hS.trans (k2.mono hS.size)
         obtain ⟨r0, r1, r2, rf, rlt⟩ := HF6.out.c.below hS5
         have hN5 := Lib.hid (HF6.out.nc.below hS5 HF6.out.c.lt)
         have K5 := Lib.hid k5
         have K6 := Lib.hid k6
         have hB5 := Lib.hid (HF6.out.bl.trans (hS5.mono (by have := HF6.out.a.lt; omega)))))
  generalize quotN zb zn (underN x.den * underN y.den) = R at *
  go_wp2
  exact bodyPost_ret (v := .agg #[.bool R.neg, .slice bn' R.num.length m1, .slice bd' R.den.length m2]) (by simp [results, Try.results96, go_sem, r0, r1, r2]) rfl ⟨_, rfl, by rw [HQ.out]; exact RatV.store hN5.out k3 k4 K5.out K6.out, below_store3 hB5.out (by omega) _ _ _⟩

end Go.Proofs.Ythlmgejikbmmaaa

/-
  The reference's Neg, Sub, Sign, Cmp of layer 3: by contract.
-/
namespace Go.Proofs.Ythlmgejikbmmaaa
open Go.RowKit

/-- A rational boxed, and a result's place. -/
structure OneR (w W : World) (g : Nat) (p q r : Value) : Prop where
  a : Box3 W g p q r
  c : Box3 W (g + 1) (.bool false) (.slice none 0 0) (.slice none 0 0)
  nc : NoInt W (g + 1)
  bl : Below g w W
theorem OneR.mk' (w : World) (p q r : Value) (T : Nat) : OneR w ((w.alloc (.cells #[p, q, r] T)).alloc (.cells #[.bool false, .slice none 0 0, .slice none 0 0] T)) w.heap.size p q r := by
  have step : ∀ (W : World) (o : Obj), Below W.heap.size W (W.alloc o) := fun W o => (Below.refl _ _).alloc (Nat.le_refl _) _
  have s1 := step w (.cells #[p, q, r] T)
  have s3 := step (w.alloc (.cells #[p, q, r] T)) (.cells #[.bool false, .slice none 0 0, .slice none 0 0] T)
  have b1 := Box3.alloc w p q r T
  have b3 := Box3.alloc (w.alloc (.cells #[p, q, r] T)) (.bool false) (.slice none 0 0) (.slice none 0 0) T
  have n3 := NoInt.alloc (w.alloc (.cells #[p, q, r] T)) #[.bool false, .slice none 0 0, .slice none 0 0] T (by simp)
  have b1' := b1.below s3
  have bl := s1.trans (s3.mono (by simp))
  simp only [World.size_alloc] at b3 n3
  exact ⟨b1', b3, n3, bl⟩

set_option maxRecDepth 100000 in
set_option maxHeartbeats 1600000 in
theorem r3Neg {w : World} {v : Value} {x : RatL} (hv : RatV w v x) (hx : RatLe x 1048576) :
    Calls Try.prog 97 #[v] w (RetR w (ratL (-ratOf x))) := by
  obtain ⟨an, ad, cn, cd, rfl, a2, a3, a4, a5⟩ := hv.ex
  have HQ : Hid (ratL (-ratOf x) = canonL ⟨!x.neg, x.num, x.den⟩) := by
    unfold Hid
    rw [canonL_ratL]
    congr 1
    exact (negQ _ _ _).symm
  have hl1 := a4.len
  have hl2 := a5.len
  have A4 := Lib.hid a4
  have A5 := Lib.hid a5
  have HX : Hid (RatLe ⟨!x.neg, x.num, x.den⟩ 1048576) := ⟨hx.num, hx.den⟩
  clear hv a4 a5 hx
  go_enter Try.func97, Try.ntmps97
  go_wp2_with fail
  have hF := OneR.mk' w (.bool (!x.neg)) (.slice an x.num.length cn) (.slice ad x.den.length cd) 78
  generalize (w.alloc (.cells #[.bool (!x.neg), .slice an x.num.length cn, .slice ad x.den.length cd] 78)).alloc (.cells #[.bool false, .slice none 0 0, .slice none 0 0] 78) = W at *
  have HF := Lib.hid hF
  have hC := r3Canon (x := ⟨!x.neg, x.num, x.den⟩) ⟨an, ad, cn, cd, rfl, a2, a3, A4.out.below hF.bl, A5.out.below hF.bl⟩ HX.out
  have HC := Lib.hid hC
  clear hF hC A4 A5
  refine HC.out.mono ?_
  rintro e w5 ⟨v5, rfl, ⟨bn', bd', m1, m2, rfl, k3, k4, k5, k6⟩, k2⟩
  obtain ⟨r0, r1, r2, rf, rlt⟩ := HF.out.c.below k2
  have hN5 := Lib.hid (HF.out.nc.below k2 HF.out.c.lt)
  have K5 := Lib.hid k5
  have K6 := Lib.hid k6
  have hB5 := Lib.hid (HF.out.bl.trans (k2.mono (by have := HF.out.a.lt; omega)))
  clear HC k5 k6 k2
  generalize canonL ⟨!x.neg, x.num, x.den⟩ = R at *
  go_wp2
  exact bodyPost_ret (v := .agg #[.bool R.neg, .slice bn' R.num.length m1, .slice bd' R.den.length m2]) (by simp [results, Try.results97, go_sem, r0, r1, r2]) rfl ⟨_, rfl, by rw [HQ.out]; exact RatV.store hN5.out k3 k4 K5.out K6.out, below_store3 hB5.out (by omega) _ _ _⟩

theorem ratL_le {x : RatL} {k : Nat} (hx : x.Lim) (h : RatLe x k) : RatLe (ratL (-ratOf x)) (k + 1) := (QLe.ratOf hx h).neg.ratL

set_option maxRecDepth 100000 in
set_option maxHeartbeats 3200000 in
theorem r3Sub {w : World} {v u : Value} {x y : RatL} (hv : RatV w v x) (hu : RatV w u y) (hx : RatLe x 524286) (hy : RatLe y 524285) :
    Calls Try.prog 68 #[v, u] w (RetR w (ratL (ratOf x - ratOf y))) := by
  have HVx := Lib.hid hv
  have HVy := Lib.hid hu
  have hny := ratL_le hu.lim hy
  obtain ⟨an, ad, cn, cd, rfl, a2, a3, a4, a5⟩ := hv.ex
  obtain ⟨bn, bd, dn, dd, rfl, b2, b3, b4, b5⟩ := hu.ex
  have HQ : Hid (ratL (ratOf x - ratOf y) = ratL (ratOf x + ratOf (ratL (-ratOf y)))) := by
    unfold Hid; rw [ratOf_ratL, Rat.sub_eq_add_neg]
  have HNy := Lib.hid hny
  have hl1 := a4.len
  have hl2 := a5.len
  have hl3 := b4.len
  have hl4 := b5.len
  have HX := Lib.hid hx
  have HY := Lib.hid (hy.mono (show 524285 ≤ 1048576 by omega))
  clear hv hu a4 a5 b4 b5 hx hy hny
  go_enter Try.func68, Try.ntmps68
  go_wp2_with fail
  have hF := TwoR.mk' w (.bool x.neg) (.slice an x.num.length cn) (.slice ad x.den.length cd) (.bool y.neg) (.slice bn y.num.length dn) (.slice bd y.den.length dd) 78
  generalize ((w.alloc (.cells #[.bool x.neg, .slice an x.num.length cn, .slice ad x.den.length cd] 78)).alloc (.cells #[.bool y.neg, .slice bn y.num.length dn, .slice bd y.den.length dd] 78)).alloc (.cells #[.bool false, .slice none 0 0, .slice none 0 0] 78) = W at *
  have HF := Lib.hid hF
  have HVX := Lib.hid (HVx.out.below hF.bl)
  have HVY := Lib.hid (HVy.out.below hF.bl)
  have xbl : Below W.heap.size W W.drew := (Below.refl _ _).drew
  clear hF HVx HVy
  go_region_held3 (fun w' => w'.cell? ⟨w.heap.size, 0, none⟩ = some (.bool x.neg) ∧ w'.cell? ⟨w.heap.size, 1, none⟩ = some (.slice an x.num.length cn) ∧ w'.cell? ⟨w.heap.size, 2, none⟩ = some (.slice ad x.den.length cd) ∧
      w'.cell? ⟨w.heap.size + 1, 0, none⟩ = some (.bool y.neg) ∧ w'.cell? ⟨w.heap.size + 1, 1, none⟩ = some (.slice bn y.num.length dn) ∧ w'.cell? ⟨w.heap.size + 1, 2, none⟩ = some (.slice bd y.den.length dd))
    (first | exact S33_keep HF.out.a HF.out.b HF.out.a.lt HF.out.b.lt ‹Below W.heap.size W _› | exact S33_keep (B := w.heap.size + 1 + 1) HF.out.a HF.out.b (Nat.lt_succ_of_lt (Nat.lt_succ_self _)) (Nat.lt_succ_self _) (below_store3 (hS5.mono (Nat.le_of_lt HF.out.c.lt)) (Nat.le_refl _) _ _ _))
    (first
      | (go_at_call 97; have hS := ‹Below W.heap.size W _›; refine (r3Neg (HVY.out.below hS) HY.out).mono ?_; rintro e w1 ⟨v1, rfl, g1, g2⟩
         have hS1 := hS.trans (g2.mono hS.size); have G1 := Lib.hid g1; clear g1)
      | (go_at_call 96; have hS := ‹Below W.heap.size W _›; refine (r3Add (HVX.out.below hS) G1.out HX.out HNy.out).mono ?_
         rintro e w5 ⟨v5, rfl, ⟨bn', bd', m1, m2, rfl, k3, k4, k5, k6⟩, k2⟩
         have hS5 := hS.trans (k2.mono hS.size)
         obtain ⟨r0, r1, r2, rf, rlt⟩ := HF.out.c.below hS5
         have hN5 := Lib.hid (HF.out.nc.below hS5 HF.out.c.lt)
         have K5 := Lib.hid k5
         have K6 := Lib.hid k6
         have hB5 := Lib.hid (HF.out.bl.trans (hS5.mono (by have := HF.out.a.lt; omega)))))
  generalize ratL (ratOf x + ratOf (ratL (-ratOf y))) = R at *
  go_wp2
  exact bodyPost_ret (v := .agg #[.bool R.neg, .slice bn' R.num.length m1, .slice bd' R.den.length m2]) (by simp [results, Try.results68, go_sem, r0, r1, r2]) rfl ⟨_, rfl, by rw [HQ.out]; exact RatV.store hN5.out k3 k4 K5.out K6.out, below_store3 hB5.out (by omega) _ _ _⟩

set_option maxRecDepth 100000 in
set_option maxHeartbeats 1600000 in
theorem r3Sign {w : World} {v : Value} {x : RatL} (hv : RatV w v x) (hx : x.num.length ≤ 17592186044416) :
    Calls Try.prog 48 #[v] w fun e w' => e = .returned (.int .i64 (signQ (ratOf x))) ∧ Below w.heap.size w w' := by
  obtain ⟨an, ad, cn, cd, rfl, a2, a3, a4, a5⟩ := hv.ex
  have hl1 := a4.len
  have hb : Below w.heap.size w (w.alloc (.cells #[.bool x.neg, .slice an x.num.length cn, .slice ad x.den.length cd] 78)) := (Below.refl _ _).alloc (Nat.le_refl _) _
  have hI : IntV (w.alloc (.cells #[.bool x.neg, .slice an x.num.length cn, .slice ad x.den.length cd] 78)) (.agg #[.bool x.neg, .slice an x.num.length cn]) x.neg (lval x.num) x.num.length := ⟨an, cn, _, rfl, a2, a4.below hb, rfl, Nat.le_refl _⟩
  have HS := Lib.hid (r2Sign hI hx)
  have HZ := Lib.hid (signZ_signQ x)
  have HB := Lib.hid hb
  clear hv a4 a5 hI hb
  go_enter Try.func48, Try.ntmps48
  go_wp2_with fail
  refine HS.out.mono ?_
  rintro e w1 ⟨rfl, hb1⟩
  have HB1 := Lib.hid (HB.out.trans (hb1.mono HB.out.size))
  clear HS hb1
  go_wp2
  go_ret
  exact ⟨ret_int HZ.out, HB1.out⟩

set_option maxRecDepth 100000 in
set_option maxHeartbeats 1600000 in
theorem r3Cmp {w : World} {v u : Value} {x y : RatL} (hv : RatV w v x) (hu : RatV w u y) (hx : RatLe x 524286) (hy : RatLe y 524285) :
    Calls Try.prog 47 #[v, u] w fun e w' => e = .returned (.int .i64 (cmpQ (ratOf x) (ratOf y))) ∧ Below w.heap.size w w' := by
  have hlen : RatLe (ratL (ratOf x - ratOf y)) 17592186044416 := (((QLe.ratOf hv.lim hx).sub (QLe.ratOf hu.lim hy)).mono (by omega)).ratL
  have HL := Lib.hid hlen.num
  have HVx := Lib.hid hv
  have HVy := Lib.hid hu
  obtain ⟨an, ad, cn, cd, rfl, a2, a3, a4, a5⟩ := hv.ex
  obtain ⟨bn, bd, dn, dd, rfl, b2, b3, b4, b5⟩ := hu.ex
  have hl1 := a4.len
  have hl2 := a5.len
  have hl3 := b4.len
  have hl4 := b5.len
  have hb : Below w.heap.size w ((w.alloc (.cells #[.bool x.neg, .slice an x.num.length cn, .slice ad x.den.length cd] 78)).alloc (.cells #[.bool y.neg, .slice bn y.num.length dn, .slice bd y.den.length dd] 78)) := ((Below.refl _ _).alloc (Nat.le_refl _) _).alloc (by simp) _
  have HS := Lib.hid (r3Sub (HVx.out.below hb) (HVy.out.below hb) hx hy)
  have HB := Lib.hid hb
  have HZ : Hid (signQ (ratOf (ratL (ratOf x - ratOf y))) = cmpQ (ratOf x) (ratOf y)) := by unfold Hid; rw [ratOf_ratL, signQ_sub]
  clear hv hu a4 a5 b4 b5 hx hy hb hlen HVx HVy
  go_enter Try.func47, Try.ntmps47
  go_wp2_with fail
  refine HS.out.mono ?_
  rintro e w1 ⟨v1, rfl, g1, hb1⟩
  have HSg := Lib.hid (r3Sign g1 HL.out)
  have HB1 := Lib.hid (HB.out.trans (hb1.mono HB.out.size))
  clear HS hb1 g1
  go_wp2_with fail
  refine HSg.out.mono ?_
  rintro e w2 ⟨rfl, hb2⟩
  have HB2 := Lib.hid (HB1.out.trans (hb2.mono HB1.out.size))
  clear HSg hb2
  go_wp2
  go_ret
  exact ⟨ret_int HZ.out, HB2.out⟩

end Go.Proofs.Ythlmgejikbmmaaa

/-
  The reference's Div, Of of layer 3: by contract.
-/
namespace Go.Proofs.Ythlmgejikbmmaaa
open Go.RowKit

theorem signQ_zero {q : Rat} : (signQ q = 0) ↔ q = 0 := by
  unfold signQ
  by_cases h1 : q < 0
  · rw [if_pos h1]; constructor
    · intro h; omega
    · intro h; subst h; exact absurd h1 (by decide)
  · rw [if_neg h1]
    by_cases h2 : 0 < q
    · rw [if_pos h2]; constructor
      · intro h; omega
      · intro h; subst h; exact absurd h2 (by decide)
    · rw [if_neg h2]
      exact ⟨fun _ => Rat.le_antisymm (Rat.not_lt.1 h2) (Rat.not_lt.1 h1), fun _ => rfl⟩
theorem ratOf_zero {x : RatL} (h : ratOf x ≠ 0) : 0 < lval x.num := by
  rcases Nat.eq_zero_or_pos (lval x.num) with h0 | h0
  · exfalso
    apply h
    unfold ratOf
    rw [h0]
    have : sgn x.neg 0 = 0 := by cases x.neg <;> rfl
    rw [this, Rat.zero_mkRat]
  · exact h0

def RetRE (w : World) (x : RatL) (c : Int) (e : Ending) (w' : World) : Prop := ∃ v, e = .returned (.tuple #[v, .int .i64 c]) ∧ RatV w' v x ∧ Below w.heap.size w w'

set_option maxRecDepth 100000 in
set_option maxHeartbeats 3200000 in
theorem r3Div {w : World} {v u : Value} {x y : RatL} (hv : RatV w v x) (hu : RatV w u y) (hx : RatLe x 1048575) (hy : RatLe y 1048575) (h0 : ratOf y ≠ 0) :
    Calls Try.prog 72 #[v, u] w (RetRE w (ratL (ratOf x / ratOf y)) 0) := by
  have HVy := Lib.hid hu
  obtain ⟨an, ad, cn, cd, rfl, a2, a3, a4, a5⟩ := hv.ex
  obtain ⟨bn, bd, dn, dd, rfl, b2, b3, b4, b5⟩ := hu.ex
  have hyp := ratOf_zero h0
  have hQ : Hid (ratL (ratOf x / ratOf y) = quotN (x.neg != y.neg) (lval x.num * underN y.den) (underN x.den * lval y.num)) := by
    unfold Hid
    rw [quotN_ratL _ _ (Nat.mul_pos (underN_pos _) hyp), divQ]; rfl
  obtain ⟨hx1, hx2⟩ := hx
  obtain ⟨hy1, hy2⟩ := hy
  have hl1 := a4.len
  have hl2 := a5.len
  have hl3 := b4.len
  have hl4 := b5.len
  have A4 := Lib.hid a4
  have A5 := Lib.hid a5
  have B4 := Lib.hid b4
  have B5 := Lib.hid b5
  have hs0 : (signQ (ratOf y) == 0) = false := by rw [beq_eq_false_iff_ne]; intro e; exact h0 (signQ_zero.1 e)
  have HDp := Lib.hid (Nat.mul_pos (underN_pos x.den) hyp)
  clear hv hu a4 a5 b4 b5 hyp h0
  go_enter Try.func72, Try.ntmps72
  go_wp2_with fail
  have hF := TwoR.mk' w (.bool x.neg) (.slice an x.num.length cn) (.slice ad x.den.length cd) (.bool y.neg) (.slice bn y.num.length dn) (.slice bd y.den.length dd) 78
  generalize ((w.alloc (.cells #[.bool x.neg, .slice an x.num.length cn, .slice ad x.den.length cd] 78)).alloc (.cells #[.bool y.neg, .slice bn y.num.length dn, .slice bd y.den.length dd] 78)).alloc (.cells #[.bool false, .slice none 0 0, .slice none 0 0] 78) = W0 at *
  have HS0 := Lib.hid (r3Sign (HVy.out.below hF.bl) (by show y.num.length ≤ _; omega))
  have HF0 := Lib.hid hF
  clear hF
  refine HS0.out.mono ?_
  rintro e W ⟨rfl, hbW⟩
  have HF := Lib.hid (HF0.out.below hbW)
  have HA4 := Lib.hid (A4.out.below HF.out.bl)
  have HA5 := Lib.hid (A5.out.below HF.out.bl)
  have HB4 := Lib.hid (B4.out.below HF.out.bl)
  have HB5 := Lib.hid (B5.out.below HF.out.bl)
  generalize signQ (ratOf y) = sq at *
  clear A4 A5 B4 B5 HS0 HF0 hbW HVy
  go_upto_region 3 with fail
  have xbl : Below W.heap.size W W.drew := (Below.refl _ _).drew
  have tok1 : True := trivial
  have tok2 : True := trivial
  clear hs0
  go_region_held3 (fun w' => w'.cell? ⟨w.heap.size, 0, none⟩ = some (.bool x.neg) ∧ w'.cell? ⟨w.heap.size, 1, none⟩ = some (.slice an x.num.length cn) ∧ w'.cell? ⟨w.heap.size, 2, none⟩ = some (.slice ad x.den.length cd) ∧
      w'.cell? ⟨w.heap.size + 1, 0, none⟩ = some (.bool y.neg) ∧ w'.cell? ⟨w.heap.size + 1, 1, none⟩ = some (.slice bn y.num.length dn) ∧ w'.cell? ⟨w.heap.size + 1, 2, none⟩ = some (.slice bd y.den.length dd))
    (first | exact S33_keep HF.out.a HF.out.b HF.out.a.lt HF.out.b.lt ‹Below W.heap.size W _› | exact S33_keep (B := w.heap.size + 1 + 1) HF.out.a HF.out.b (Nat.lt_succ_of_lt (Nat.lt_succ_self _)) (Nat.lt_succ_self _) (below_store3 (hS5.mono (Nat.le_of_lt HF.out.c.lt)) (Nat.le_refl _) _ _ _))
    (first
      | (go_at_call 103; have _t := tok1; clear tok1; have hS := ‹Below W.heap.size W _›; refine (r3one dd b3 (HB5.out.below hS) (by omega)).mono ?_; rintro e w1 ⟨a1, c1, l1, rfl, p1, p2, p3, p4, p5⟩
         have hS1 := hS.trans (p5.mono hS.size); have P2 := Lib.hid p2; have P3 := Lib.hid p3; clear p2 p3)
      | (go_at_call 102; have _t := tok2; clear tok2; have hS := ‹Below W.heap.size W _›; refine (r1Mul cn c1 (HA4.out.below hS) P2.out rfl P3.out (by omega)).mono ?_; rintro e w2 ⟨a2', c2, rfl, g1, g2, g3, _⟩
         have hS2 := hS.trans (g3.mono hS.size); have G2 := Lib.hid g2; clear g2
         have hml : (limbs (lval x.num * underN y.den)).length ≤ 2097152 := Nat.le_trans (mul_len rfl P3.out hx1 p4 HA4.out.lim P2.out.lim) (by omega))
      | (go_at_call 103; have hS := ‹Below W.heap.size W _›; refine (r3one cd a3 (HA5.out.below hS) (by omega)).mono ?_; rintro e w3 ⟨a3', c3, l3, rfl, q1, q2, q3, q4, q5⟩
         have hS3 := hS.trans (q5.mono hS.size); have G2b := Lib.hid (G2.out.below q5); have Q2 := Lib.hid q2; have Q3 := Lib.hid q3; clear q2 q3)
      | (go_at_call 102; have hS := ‹Below W.heap.size W _›; refine (r1Mul c3 dn Q2.out (HB4.out.below hS) Q3.out rfl (by omega)).mono ?_; rintro e w4 ⟨a4, c4, rfl, t1, t2, t3, _⟩
         have hS4 := hS.trans (t3.mono hS.size); have G2d := Lib.hid (G2b.out.below t3); have T2 := Lib.hid t2; clear t2
         have hdl : (limbs (underN x.den * lval y.num)).length ≤ 2097152 := Nat.le_trans (mul_len Q3.out rfl q4 hy1 Q2.out.lim HB4.out.lim) (by omega))
      | (go_at_call 101; have hS := ‹Below W.heap.size W _›; refine (r3quot (x.neg != y.neg) c2 c4 g1 t1 G2d.out T2.out (lval_limbs _) (lval_limbs _) hml hdl HDp.out).mono ?_
         rintro e w5 ⟨v5, rfl, ⟨bn', bd', m1, m2, rfl, k3, k4, k5, k6⟩, k2⟩
         have hS5 := hS.trans (k2.mono hS.size)
         obtain ⟨r0, r1, r2, rf, rlt⟩ := HF.out.c.below hS5
         have hN5 := Lib.hid (HF.out.nc.below hS5 HF.out.c.lt)
         have K5 := Lib.hid k5
         have K6 := Lib.hid k6
         have hB5 := Lib.hid (HF.out.bl.trans (hS5.mono (by have := HF.out.a.lt; omega)))))
  generalize quotN (x.neg != y.neg) (lval x.num * underN y.den) (underN x.den * lval y.num) = R at *
  go_wp2
  exact bodyPost_ret (v := .tuple #[.agg #[.bool R.neg, .slice bn' R.num.length m1, .slice bd' R.den.length m2], .int .i64 0]) (by simp [results, Try.results72, go_sem, r0, r1, r2]) rfl ⟨_, rfl, by rw [hQ.out]; exact RatV.store hN5.out k3 k4 K5.out K6.out, below_store3 hB5.out (by omega) _ _ _⟩

theorem ratL_int (z : Int) : ratL (z : Rat) = ⟨decide (z < 0), limbs z.natAbs, []⟩ := by
  unfold ratL
  rw [Rat.num_intCast, Rat.den_intCast]
  rfl

set_option maxRecDepth 100000 in
set_option maxHeartbeats 1600000 in
theorem r3Of (w : World) (x : Int) (h1 : -9223372036854775808 ≤ x) (h2 : x ≤ 9223372036854775807) :
    Calls Try.prog 104 #[.int .i64 x] w (RetR w (ratL (x : Rat))) := by
  have hR := Box3.alloc w (.bool false) (.slice none 0 0) (.slice none 0 0) 78
  have hN := NoInt.alloc w #[.bool false, .slice none 0 0, .slice none 0 0] 78 (by simp)
  have hB0 : Below w.heap.size w (w.alloc (.cells #[.bool false, .slice none 0 0, .slice none 0 0] 78)) := (Below.refl _ _).alloc (Nat.le_refl _) _
  have HO := Lib.hid (fun wv => r2Of wv x h1 h2)
  have HR := Lib.hid hR
  have HN := Lib.hid hN
  have HB := Lib.hid hB0
  have HQ := Lib.hid (ratL_int x)
  clear hR hN hB0
  go_enter Try.func104, Try.ntmps104
  go_wp2_with fail
  refine (HO.out _).mono ?_
  rintro e w1 ⟨v1, rfl, ⟨a1, c1, rfl, g1, g2⟩, hb⟩
  generalize hzb : decide (x < 0) = zb at *
  generalize hzn : limbs x.natAbs = zn at *
  have hal : Below w1.heap.size w1 (w1.alloc (.cells #[.bool zb, .slice a1 zn.length c1] 106)) := (Below.refl _ _).alloc (Nat.le_refl _) _
  obtain ⟨r0, r1, r2, rf, rlt⟩ := (HR.out.below hb).below hal
  have hN2 := Lib.hid ((HN.out.below hb HR.out.lt).below hal (HR.out.below hb).lt)
  have HB2 := Lib.hid (HB.out.trans ((hb.trans (hal.mono hb.size)).mono HB.out.size))
  have G2 := Lib.hid (g2.below hal)
  clear HO hb hal g2 HR HN HB hzb hzn
  go_wp2
  exact bodyPost_ret (v := .agg #[.bool zb, .slice a1 zn.length c1, .slice none 0 0]) (by simp [results, Try.results104, go_sem, r0, r1, r2]) rfl ⟨_, rfl, by rw [HQ.out]; exact RatV.store (x := ⟨zb, zn, []⟩) (bd := none) (m2 := 0) hN2.out g1 (Nat.le_refl _) G2.out (U32s.nil _ _), below_store3 HB2.out (Nat.le_refl _) _ _ _⟩

end Go.Proofs.Ythlmgejikbmmaaa

/-
  The reference's Make, Frac, Num, Den, Whole of layer 3: by contract.
-/
namespace Go.Proofs.Ythlmgejikbmmaaa
open Go.RowKit

/-- Two integers boxed, and a rational's place. -/
structure TwoIR (w W : World) (g : Nat) (p q r s : Value) : Prop where
  a : Box2 W g p q
  b : Box2 W (g + 1) r s
  c : Box3 W (g + 1 + 1) (.bool false) (.slice none 0 0) (.slice none 0 0)
  nc : NoInt W (g + 1 + 1)
  bl : Below g w W
theorem TwoIR.mk' (w : World) (p q r s : Value) (T T' : Nat) : TwoIR w (((w.alloc (.cells #[p, q] T)).alloc (.cells #[r, s] T)).alloc (.cells #[.bool false, .slice none 0 0, .slice none 0 0] T')) w.heap.size p q r s := by
  have step : ∀ (W : World) (o : Obj), Below W.heap.size W (W.alloc o) := fun W o => (Below.refl _ _).alloc (Nat.le_refl _) _
  have s1 := step w (.cells #[p, q] T)
  have s2 := step (w.alloc (.cells #[p, q] T)) (.cells #[r, s] T)
  have s3 := step ((w.alloc (.cells #[p, q] T)).alloc (.cells #[r, s] T)) (.cells #[.bool false, .slice none 0 0, .slice none 0 0] T')
  have b1 := Box2.alloc w p q T
  have b2 := Box2.alloc (w.alloc (.cells #[p, q] T)) r s T
  have b3 := Box3.alloc ((w.alloc (.cells #[p, q] T)).alloc (.cells #[r, s] T)) (.bool false) (.slice none 0 0) (.slice none 0 0) T'
  have n3 := NoInt.alloc ((w.alloc (.cells #[p, q] T)).alloc (.cells #[r, s] T)) #[.bool false, .slice none 0 0, .slice none 0 0] T' (by simp)
  have b1' := (b1.below s2).below s3
  have b2' := b2.below s3
  have bl := (s1.trans (s2.mono (by simp))).trans (s3.mono (by simp; omega))
  simp only [World.size_alloc] at b2' b3 n3
  exact ⟨b1', b2', b3, n3, bl⟩
theorem TwoIR.below' {w W W' : World} {g : Nat} {p q r s : Value} (h : TwoIR w W g p q r s) (hb : Below W.heap.size W W') : TwoIR w W' g p q r s :=
  ⟨h.a.below hb, h.b.below hb, h.c.below hb, h.nc.below hb h.c.lt, h.bl.trans (hb.mono (by have := h.a.lt; omega))⟩

set_option maxRecDepth 100000 in
set_option maxHeartbeats 1600000 in
theorem r3Make {w : World} {v u : Value} {n1 n2 : Bool} {x y k1 k2 : Nat} (hv : IntV w v n1 x k1) (hu : IntV w u n2 y k2) (hy : 0 < y) (hr1 : k1 ≤ 2097152) (hr2 : k2 ≤ 2097152) :
    Calls Try.prog 150 #[v, u] w (RetRE w (ratL (mkRat (sgn (n1 != n2) x) y)) 0) := by
  have HU := Lib.hid hu
  obtain ⟨a, c, l, rfl, h1, h2, h3, h4⟩ := hv.ex
  obtain ⟨b, d, m, rfl, g1, g2, g3, g4⟩ := hu.ex
  have hl1 := h2.len
  have hl2 := g2.len
  have HQ := Lib.hid (quotN_ratL (n1 != n2) x hy)
  have H2 := Lib.hid h2
  have G2 := Lib.hid g2
  have H3 := Lib.hid h3
  have G3 := Lib.hid g3
  have HY := Lib.hid hy
  have hz : (signZ n2 y == 0) = false := by
    rw [beq_eq_false_iff_ne]
    unfold signZ
    rw [if_neg (by omega)]
    split <;> omega
  clear hv hu h2 g2 h3 g3 hy
  go_enter Try.func150, Try.ntmps150
  go_wp2_with fail
  have hF := TwoIR.mk' w (.bool n1) (.slice a l.length c) (.bool n2) (.slice b m.length d) 106 78
  generalize ((w.alloc (.cells #[.bool n1, .slice a l.length c] 106)).alloc (.cells #[.bool n2, .slice b m.length d] 106)).alloc (.cells #[.bool false, .slice none 0 0, .slice none 0 0] 78) = W0 at *
  have HS := Lib.hid (r2Sign (HU.out.below hF.bl) (by omega))
  have HF0 := Lib.hid hF
  clear hF
  refine HS.out.mono ?_
  rintro e W ⟨rfl, hbW⟩
  have HF := Lib.hid (HF0.out.below' hbW)
  generalize signZ n2 y = sq at *
  clear HS HF0 hbW HU
  obtain ⟨x0, x1, _, xlt⟩ := HF.out.a
  obtain ⟨y0, y1, _, ylt⟩ := HF.out.b
  have hC := r3quot (n1 != n2) c d h1 g1 (H2.out.below HF.out.bl) (G2.out.below HF.out.bl) H3.out G3.out (by omega) (by omega) HY.out
  rw [HQ.out] at hC
  have HC := Lib.hid hC
  clear hC H2 G2
  go_wp2_with fail
  refine HC.out.mono ?_
  rintro e w5 ⟨v5, rfl, ⟨bn', bd', m1, m2, rfl, k3, k4, k5, k6⟩, k2⟩
  obtain ⟨r0, r1, r2, rf, rlt⟩ := HF.out.c.below k2
  have hN5 := Lib.hid (HF.out.nc.below k2 HF.out.c.lt)
  have K5 := Lib.hid k5
  have K6 := Lib.hid k6
  have hB5 := Lib.hid (HF.out.bl.trans (k2.mono (by have := HF.out.a.lt; omega)))
  clear HC k5 k6 k2 x0 x1 xlt y0 y1 ylt hz
  generalize ratL (mkRat (sgn (n1 != n2) x) y) = R at *
  go_wp2
  exact bodyPost_ret (v := .tuple #[.agg #[.bool R.neg, .slice bn' R.num.length m1, .slice bd' R.den.length m2], .int .i64 0]) (by simp [results, Try.results150, go_sem, r0, r1, r2]) rfl ⟨_, rfl, RatV.store hN5.out k3 k4 K5.out K6.out, below_store3 hB5.out (by omega) _ _ _⟩

theorem fracQ (a b : Int) : mkRat (sgn (decide (a < 0) != decide (b < 0)) a.natAbs) b.natAbs = (a : Rat) / (b : Rat) := by
  by_cases hb : b = 0
  · subst hb
    simp [Rat.div_def]
  · have h1 : mkRat (sgn (decide (a < 0) != decide (b < 0)) (a.natAbs * 1)) (1 * b.natAbs) = mkRat (sgn (decide (a < 0)) a.natAbs) 1 / mkRat (sgn (decide (b < 0)) b.natAbs) 1 := divQ _ _ _ _ _ _
    rw [sgn_of_int, sgn_of_int, Nat.mul_one, Nat.one_mul] at h1
    rw [h1, Rat.mkRat_one, Rat.mkRat_one]

set_option maxRecDepth 100000 in
set_option maxHeartbeats 1600000 in
theorem r3Frac (w : World) (a b : Int) (a1 : -9223372036854775808 ≤ a) (a2 : a ≤ 9223372036854775807) (b1 : -9223372036854775808 ≤ b) (b2 : b ≤ 9223372036854775807) (hb0 : b ≠ 0) :
    Calls Try.prog 125 #[.int .i64 a, .int .i64 b] w (RetRE w (ratL ((a : Rat) / (b : Rat))) 0) := by
  have hR := Box3.alloc w (.bool false) (.slice none 0 0) (.slice none 0 0) 78
  have hN := NoInt.alloc w #[.bool false, .slice none 0 0, .slice none 0 0] 78 (by simp)
  have hB0 : Below w.heap.size w (w.alloc (.cells #[.bool false, .slice none 0 0, .slice none 0 0] 78)) := (Below.refl _ _).alloc (Nat.le_refl _) _
  have HO1 := Lib.hid (fun wv => r2Of wv a a1 a2)
  have HO2 := Lib.hid (fun wv => r2Of wv b b1 b2)
  have HR := Lib.hid hR
  have HN := Lib.hid hN
  have HB := Lib.hid hB0
  have HQ := Lib.hid (fracQ a b)
  have la := limbs_len64 (n := a.natAbs) (by omega)
  have lb := limbs_len64 (n := b.natAbs) (by omega)
  have HB0 := Lib.hid (show 0 < b.natAbs by omega)
  clear hR hN hB0 hb0
  go_enter Try.func125, Try.ntmps125
  go_wp2_with fail
  refine (HO1.out _).mono ?_
  rintro e w1 ⟨v1, rfl, i1, hb1⟩
  have I1 := Lib.hid i1
  have HRb1 := Lib.hid (HR.out.below hb1)
  have HNb1 := Lib.hid (HN.out.below hb1 HR.out.lt)
  have HB1 := Lib.hid (HB.out.trans (hb1.mono HB.out.size))
  clear HO1 HR HN HB i1 hb1
  go_wp2_with fail
  refine (HO2.out _).mono ?_
  rintro e w2 ⟨v2, rfl, i2, hb2⟩
  have hM := r3Make (I1.out.below hb2).v i2.v HB0.out (by omega) (by omega)
  rw [HQ.out] at hM
  have HM := Lib.hid hM
  have HR2 := Lib.hid (HRb1.out.below hb2)
  have HN2 := Lib.hid (HNb1.out.below hb2 HRb1.out.lt)
  have HB2 := Lib.hid (HB1.out.trans (hb2.mono HB1.out.size))
  clear HO2 HRb1 HNb1 HB1 i2 hb2 hM I1
  go_wp2_with fail
  refine HM.out.mono ?_
  rintro e w5 ⟨v5, rfl, ⟨bn', bd', m1, m2, rfl, k3, k4, k5, k6⟩, k2⟩
  obtain ⟨r0, r1, r2, rf, rlt⟩ := HR2.out.below k2
  have hN5 := Lib.hid (HN2.out.below k2 HR2.out.lt)
  have K5 := Lib.hid k5
  have K6 := Lib.hid k6
  have hB5 := Lib.hid (HB2.out.trans (k2.mono HB2.out.size))
  clear HM k5 k6 k2
  generalize ratL ((a : Rat) / (b : Rat)) = R at *
  go_wp2
  exact bodyPost_ret (v := .tuple #[.agg #[.bool R.neg, .slice bn' R.num.length m1, .slice bd' R.den.length m2], .int .i64 0]) (by simp [results, Try.results125, go_sem, r0, r1, r2]) rfl ⟨_, rfl, RatV.store hN5.out k3 k4 K5.out K6.out, below_store3 hB5.out (Nat.le_refl _) _ _ _⟩

end Go.Proofs.Ythlmgejikbmmaaa

/-
  The reference's Num, Den, Whole of layer 3, Int of layer 2: by contract.
-/
namespace Go.Proofs.Ythlmgejikbmmaaa
open Go.RowKit

theorem U32s.store3 {w : World} {g : Nat} {a : Option Addr} {l : List Nat} (h : U32s w a l) (hN : NoInt w g) (b : Bool) (x : Option Addr) (n c : Nat) (y : Option Addr) (m d : Nat) : U32s (((w.setCell ⟨g, 0, none⟩ (.bool b)).setCell ⟨g, 1, none⟩ (.slice x n c)).setCell ⟨g, 2, none⟩ (.slice y m d)) a l :=
  ((h.setCell hN _ _).setCell (hN.setCell _ _ (by simp)) _ _).setCell ((hN.setCell _ _ (by simp)).setCell _ _ (by simp)) _ _
theorem Try.fieldDen (b : Bool) (x y : Option Addr) (n m c d : Nat) (w : World) : (Instr.field 78 (.agg #[.bool b, .slice x n c, .slice y m d]) 2).run Try.prog w = .ok (.slice y m d) w := by kernel_rfl

set_option maxRecDepth 100000 in
set_option maxHeartbeats 1600000 in
theorem r3Num {w : World} {v : Value} {x : RatL} (hv : RatV w v x) (hx : RatLe x 1048576) :
    Calls Try.prog 152 #[v] w (RetZ w (ratOf x).num) := by
  have HV := Lib.hid hv
  obtain ⟨an, ad, cn, cd, rfl, a2, a3, a4, a5⟩ := hv.ex
  have hl1 := a4.len
  have hl2 := a5.len
  have hb0 : Below w.heap.size w ((w.alloc (.cells #[.bool x.neg, .slice an x.num.length cn, .slice ad x.den.length cd] 78)).alloc (.cells #[.bool false, .slice none 0 0] 106)) := ((Below.refl _ _).alloc (Nat.le_refl _) _).alloc (by simp) _
  have hA : Box3 ((w.alloc (.cells #[.bool x.neg, .slice an x.num.length cn, .slice ad x.den.length cd] 78)).alloc (.cells #[.bool false, .slice none 0 0] 106)) w.heap.size (.bool x.neg) (.slice an x.num.length cn) (.slice ad x.den.length cd) :=
    (Box3.alloc w _ _ _ _).below ((Below.refl _ _).alloc (Nat.le_refl _) _)
  have hN0 : NoInt ((w.alloc (.cells #[.bool x.neg, .slice an x.num.length cn, .slice ad x.den.length cd] 78)).alloc (.cells #[.bool false, .slice none 0 0] 106)) w.heap.size :=
    (NoInt.alloc w _ _ (by simp)).below ((Below.refl _ _).alloc (Nat.le_refl _) _) (by simp)
  have hR := Box2.alloc (w.alloc (.cells #[.bool x.neg, .slice an x.num.length cn, .slice ad x.den.length cd] 78)) (.bool false) (.slice none 0 0) 106
  have hN := NoInt.alloc (w.alloc (.cells #[.bool x.neg, .slice an x.num.length cn, .slice ad x.den.length cd] 78)) #[.bool false, .slice none 0 0] 106 (by simp)
  simp only [World.size_alloc] at hR hN
  have hC := r3Canon (HV.out.below hb0) hx
  rw [canonL_ratL] at hC
  have HC := Lib.hid hC
  have HA := Lib.hid hA
  have HN0 := Lib.hid hN0
  have HR := Lib.hid hR
  have HN := Lib.hid hN
  have HB := Lib.hid hb0
  clear hv a4 a5 hb0 hA hN0 hR hN hC HV hx
  go_enter Try.func152, Try.ntmps152
  go_wp2_with fail
  refine HC.out.mono ?_
  rintro e w5 ⟨v5, rfl, ⟨bn', bd', m1, m2, rfl, k3, k4, k5, k6⟩, k2⟩
  have hn1 : (ratL (ratOf x)).neg = decide ((ratOf x).num < 0) := rfl
  have hn2 : (ratL (ratOf x)).num = limbs (ratOf x).num.natAbs := rfl
  rw [hn2] at k3 k5 ⊢
  rw [hn1]
  obtain ⟨x0, x1, x2, xf, xlt⟩ := HA.out.below k2
  have xf0 := xf 0
  have xf1 := xf 1
  have xf2 := xf 2
  obtain ⟨r0, r1, rf, rlt⟩ := HR.out.below k2
  have rf0 := rf 0
  have rf1 := rf 1
  have K5 := Lib.hid k5
  have hN5 := Lib.hid (HN.out.below k2 HR.out.lt)
  have hN05 := Lib.hid (HN0.out.below k2 HA.out.lt)
  have hB5 := Lib.hid (HB.out.trans (k2.mono HB.out.size))
  have HZ : Hid (∀ w', U32s w' bn' (limbs (ratOf x).num.natAbs) → IntC w' (.agg #[.bool (decide ((ratOf x).num < 0)), .slice bn' (limbs (ratOf x).num.natAbs).length m1]) (ratOf x).num) := fun w' h => ⟨bn', m1, rfl, k3, h⟩
  clear HC k5 k6 k2 xf rf hn1 hn2
  generalize (ratL (ratOf x)).den = D at *
  generalize decide ((ratOf x).num < 0) = B at *
  generalize limbs (ratOf x).num.natAbs = L at *
  generalize (ratOf x).num = z at *
  go_wp2
  have u1 := K5.out.store3 hN05.out B bn' L.length m1 bd' D.length m2
  have n1 := ((hN5.out.far (h := w.heap.size) (by omega) 0 (.bool B)).far (h := w.heap.size) (by omega) 1 (.slice bn' L.length m1)).far (h := w.heap.size) (by omega) 2 (.slice bd' D.length m2)
  have u2 := u1.store2 n1 B bn' L.length m1
  have c0 : (((w5.setCell ⟨w.heap.size, 0, none⟩ (.bool B)).setCell ⟨w.heap.size, 1, none⟩ (.slice bn' L.length m1)).setCell ⟨w.heap.size, 2, none⟩ (.slice bd' D.length m2)).cell? ⟨w.heap.size + 1, 0, none⟩ = some (.bool false) := by rw [far2 (by omega), far2 (by omega), far2 (by omega)]; exact r0
  have c1 : (((w5.setCell ⟨w.heap.size, 0, none⟩ (.bool B)).setCell ⟨w.heap.size, 1, none⟩ (.slice bn' L.length m1)).setCell ⟨w.heap.size, 2, none⟩ (.slice bd' D.length m2)).cell? ⟨w.heap.size + 1, 1, none⟩ = some (.slice none 0 0) := by rw [far2 (by omega), far2 (by omega), far2 (by omega)]; exact r1
  exact bodyPost_ret (v := .agg #[.bool B, .slice bn' L.length m1]) (by simp [results, Try.results152, go_sem, c0, c1]) rfl ⟨_, rfl, HZ.out _ u2, below_store2 (below_store3 hB5.out (Nat.le_refl _) _ _ _) (Nat.le_succ _) _ _⟩

set_option maxRecDepth 100000 in
set_option maxHeartbeats 1600000 in
theorem r3Den {w : World} {v : Value} {x : RatL} (hv : RatV w v x) (hx : RatLe x 1048576) :
    Calls Try.prog 153 #[v] w (RetU w (ratOf x).den ((ratL (ratOf x)).den.length + 1)) := by
  have HV := Lib.hid hv
  obtain ⟨an, ad, cn, cd, rfl, a2, a3, a4, a5⟩ := hv.ex
  have hl1 := a4.len
  have hl2 := a5.len
  have hlD : (ratL (ratOf x)).den.length ≤ 1048577 := (QLe.ratOf HV.out.lim hx).ratL.den
  have hb0 : Below w.heap.size w (w.alloc (.cells #[.bool x.neg, .slice an x.num.length cn, .slice ad x.den.length cd] 78)) := (Below.refl _ _).alloc (Nat.le_refl _) _
  have hC := r3Canon (HV.out.below hb0) hx
  rw [canonL_ratL] at hC
  have HC := Lib.hid hC
  have HB := Lib.hid hb0
  have HD := Lib.hid (underN_ratL (ratOf x))
  clear hv a4 a5 hb0 hC HV hx
  go_enter Try.func153, Try.ntmps153
  go_wp2_with fail
  refine HC.out.mono ?_
  rintro e w5 ⟨v5, rfl, ⟨bn', bd', m1, m2, rfl, k3, k4, k5, k6⟩, k2⟩
  have hO := r3one m2 k4 k6 (by omega)
  rw [HD.out] at hO
  have HO := Lib.hid hO
  have hB5 := Lib.hid (HB.out.trans (k2.mono HB.out.size))
  clear HC k5 k6 k2 hO
  generalize (ratL (ratOf x)).neg = B at *
  generalize (ratL (ratOf x)).num = L at *
  have hfd := Try.fieldDen B bn' bd' L.length (ratL (ratOf x)).den.length m1 m2 w5
  go_wp2_with fail
  refine HO.out.mono ?_
  rintro e w6 ⟨a1, c1, l1, rfl, p1, p2, p3, p4, p5⟩
  have P2 := Lib.hid p2
  have P3 := Lib.hid p3
  have P5 := Lib.hid (hB5.out.trans (p5.mono hB5.out.size))
  clear HO p2 p3 p5
  go_wp2
  go_ret
  exact ⟨a1, c1, l1, rfl, p1, P2.out, P3.out, p4, P5.out⟩

theorem wholeQ (neg : Bool) (n : Nat) : canonL ⟨neg, limbs n, []⟩ = ratL ((sgn neg n : Int) : Rat) := by
  rw [canonL_ratL]
  unfold ratOf underN
  rw [lval_nil, if_pos rfl, lval_limbs, Rat.mkRat_one]
theorem wholeQ' (neg : Bool) (l : List Nat) : canonL ⟨neg, l, []⟩ = ratL ((sgn neg (lval l) : Int) : Rat) := by
  rw [canonL_ratL]
  unfold ratOf underN
  rw [lval_nil, if_pos rfl, Rat.mkRat_one]

set_option maxRecDepth 100000 in
set_option maxHeartbeats 1600000 in
theorem r3Whole {w : World} {v : Value} {neg : Bool} {n k : Nat} (hv : IntV w v neg n k) (hr : k ≤ 1048576) :
    Calls Try.prog 127 #[v] w (RetR w (ratL ((sgn neg n : Int) : Rat))) := by
  obtain ⟨a, c, l, rfl, h1, h2, h3, h4⟩ := hv.ex
  have hl := h2.len
  have HQ := Lib.hid (wholeQ' neg l)
  rw [h3] at HQ
  have step : ∀ (W : World) (o : Obj), Below W.heap.size W (W.alloc o) := fun W o => (Below.refl _ _).alloc (Nat.le_refl _) _
  have hb0 : Below w.heap.size w ((w.alloc (.cells #[.bool neg, .slice a l.length c] 106)).alloc (.cells #[.bool false, .slice none 0 0, .slice none 0 0] 78)) := ((Below.refl _ _).alloc (Nat.le_refl _) _).alloc (by simp) _
  have hR := Box3.alloc (w.alloc (.cells #[.bool neg, .slice a l.length c] 106)) (.bool false) (.slice none 0 0) (.slice none 0 0) 78
  have hN := NoInt.alloc (w.alloc (.cells #[.bool neg, .slice a l.length c] 106)) #[.bool false, .slice none 0 0, .slice none 0 0] 78 (by simp)
  simp only [World.size_alloc] at hR hN
  have hC := r3Canon (x := ⟨neg, l, []⟩) ⟨a, none, c, 0, rfl, h1, Nat.le_refl _, h2.below hb0, U32s.nil _ _⟩ ⟨by show l.length ≤ _; omega, by simp⟩
  rw [HQ.out] at hC
  have HC := Lib.hid hC
  have HR := Lib.hid hR
  have HN := Lib.hid hN
  have HB := Lib.hid hb0
  clear hv h2 h3 hb0 hR hN hC step HQ
  go_enter Try.func127, Try.ntmps127
  go_wp2_with fail
  refine HC.out.mono ?_
  rintro e w5 ⟨v5, rfl, ⟨bn', bd', m1, m2, rfl, k3, k4, k5, k6⟩, k2⟩
  obtain ⟨r0, r1, r2, rf, rlt⟩ := HR.out.below k2
  have hN5 := Lib.hid (HN.out.below k2 HR.out.lt)
  have K5 := Lib.hid k5
  have K6 := Lib.hid k6
  have hB5 := Lib.hid (HB.out.trans (k2.mono HB.out.size))
  clear HC k5 k6 k2
  generalize ratL ((sgn neg n : Int) : Rat) = R at *
  go_wp2
  exact bodyPost_ret (v := .agg #[.bool R.neg, .slice bn' R.num.length m1, .slice bd' R.den.length m2]) (by simp [results, Try.results127, go_sem, r0, r1, r2]) rfl ⟨_, rfl, RatV.store hN5.out k3 k4 K5.out K6.out, below_store3 hB5.out (Nat.le_succ _) _ _ _⟩

end Go.Proofs.Ythlmgejikbmmaaa

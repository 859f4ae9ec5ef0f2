/-
  Contracts of the functions that the statement reaches: LwR, LwT.
-/
import Derived.Test.YtoppijdedkdjeaaGreatG43
import Derived.Test.YtoppijdedkdjeaaGreatG45
set_option linter.unusedVariables false
set_option linter.unusedSimpArgs false
set_option linter.constructorNameAsVariable false
set_option linter.deprecated false
set_option maxRecDepth 100000
set_option maxHeartbeats 3200000
namespace Go.Proofs.YtoppijdedkdjeaaGreat
open Go.RowKit
open Go.Lib (hid)
theorem allO1_take {L : List RatL} {j : Nat} {x : RatL} (hx : L[j]? = some x) : (L.take (j + 1)).all oneR = ((L.take j).all oneR && oneR x) := by
 rw [take_succ_at hx, List.all_append]; simp
theorem kNumbers {w : World} {a : Option Addr} {L : List RatL} (c : Nat) (h : RatsAt w a L) (hL : ∀ x ∈ L, RatLe x 1048576) :
  Calls Tryz.prog 28 #[.slice a L.length c] w fun e w' => e = .returned (.bool (numB L)) /\ Below w.heap.size w w' := by
 have q1 := h.len
 have H := hid h
 have HLe := hid hL
 generalize hR : numB L = R
 unfold numB at hR
 have HR := hid hR
 clear h hL hR
 go_enter Tryz.func28, Tryz.ntmps28
 go_wp2
 go_loopw [3] (fun i wr => ∃ j : Nat, j <= L.length /\ i = .int .i64 (j : Int) /\ Hid ((L.take j).all oneR = true) /\ Hid (Below w.heap.size w wr)) (fun i _ => L.length - (intOf i).toNat)
 case atStart => exact ⟨0, Nat.zero_le _, rfl, rfl, Below.refl _ _⟩
 case round =>
  obtain ⟨j, hj, rfl, HA, HW⟩ := hrel
  by_cases hlt : j < L.length
  ·obtain ⟨b, off, x, an, ad, cn, cd, rfl, hb, hx, x0, x1, x2, hv⟩ := (H.out.below HW.out).pick hlt
   have HT := hid (allO1_take hx)
   have hm := List.mem_of_getElem? hx
   have HV := hid (r3Valid hv (HLe.out x hm))
   have HNo : Hid (oneR x = false -> R = false) := fun hf => by
    have : L.all oneR = false := by rw [List.all_eq_false]; exact ⟨x, hm, by simp [hf]⟩
    rw [<- HR.out, this]; rfl
   clear hx hv hm
   by_cases g1 : x.num.length <= 1
   ·by_cases g2 : x.den.length <= 1
    ·cases hval : validR x with
     | false =>
      rw [hval] at HV
      have HF : Hid (R = false) := HNo.out (by unfold oneR; rw [hval, Bool.and_false, Bool.and_false])
      clear hval
      go_wp2_with fail
      refine HV.out.mono ?_
      rintro e w2 ⟨rfl, hb2⟩
      have HB2 := hid (HW.out.trans (hb2.mono HW.out.size))
      clear hb2
      go_wp2
      go_ret
      exact ⟨ret_bool HF.out.symm, HB2.out⟩
     | true =>
      rw [hval] at HV
      have HA2 : Hid ((L.take (j + 1)).all oneR = true) := by unfold Hid; rw [HT.out, HA.out]; unfold oneR; rw [decide_eq_true g1, decide_eq_true g2, hval]; rfl
      clear hval
      go_wp2_with fail
      refine HV.out.mono ?_
      rintro e w2 ⟨rfl, hb2⟩
      have HB2 := hid (HW.out.trans (hb2.mono HW.out.size))
      clear hb2
      go_wp2
      go_roundw
      case rel => exact ⟨j + 1, hlt, by go_num, HA2.out, HB2.out⟩
      case measure => simp [intOf]; omega
    ·have HF : Hid (R = false) := HNo.out (by unfold oneR; rw [decide_eq_false g2, Bool.false_and, Bool.and_false])
     go_wp2
     go_ret
     exact ⟨ret_bool HF.out.symm, HW.out⟩
   ·have HF : Hid (R = false) := HNo.out (by unfold oneR; rw [decide_eq_false g1]; rfl)
    go_wp2
    go_ret
    exact ⟨ret_bool HF.out.symm, HW.out⟩
  ·obtain rfl : j = L.length := by omega
   have HE : Hid (decide (L.length <= 200) = R) := by
    have := HA.out
    rw [List.take_length] at this
    unfold Hid
    rw [<- HR.out, this]; rfl
   have HF : Hid (decide ((L.length : Int) <= 200) = R) := by unfold Hid; rw [<- HE.out]; exact decide_eq_decide.2 (by omega)
   go_wp2
   go_ret
   exact ⟨ret_bool HF.out, HW.out⟩
def small5B (l : List Int) (kh kw p : Int) : Bool := decide (l.length <= 5) && (decide (sizeL l <= 100) && (decide (kh <= 6) && (decide (kw <= 6) && decide (p <= 4))))
theorem small53v {w : World} {a : Option Addr} {l : List Int} (c : Nat) (kind fr o kh kw s p : Int) (aw : Option Addr) (nw cw : Nat) (ab : Option Addr) (nb cb : Nat) (h : Ints w Any a l) :
  Calls Tryz.prog 27 #[.slice a l.length c, layerV kind fr o kh kw s p aw nw cw ab nb cb] w fun e w' => e = .returned (.bool (small5B l kh kw p)) /\ Below w.heap.size w w' := by
 have h1 := h.below ((Below.refl _ w).alloc (Nat.le_refl _) (.cells #[.int .i64 kind, .int .i64 fr, .int .i64 o, .int .i64 kh, .int .i64 kw, .int .i64 s, .int .i64 p, .slice aw nw cw, .slice ab nb cb] 42))
 have hlen := h.len
 have HZ := hid (rSize c h1)
 generalize hR : small5B l kh kw p = R
 unfold small5B at hR
 have HR := hid hR
 clear h h1 hR
 by_cases g0 : l.length <= 5
 case neg =>
  have HF : Hid (R = false) := by unfold Hid; rw [<- HR.out, decide_eq_false g0]; simp
  go_enter Tryz.func27, Tryz.ntmps27
  go_wp2_with (go_at_call 30; refine HZ.out.mono ?_; rintro e w' ⟨rfl, rfl⟩)
  go_ret
  exact ⟨ret_bool HF.out.symm, (Below.refl _ _).alloc (Nat.le_refl _) _⟩
 by_cases g1 : sizeL l <= 100
 case neg =>
  have HF : Hid (R = false) := by unfold Hid; rw [<- HR.out, decide_eq_true g0, decide_eq_false g1]; simp
  go_enter Tryz.func27, Tryz.ntmps27
  go_wp2_with (go_at_call 30; refine HZ.out.mono ?_; rintro e w' ⟨rfl, rfl⟩)
  go_ret
  exact ⟨ret_bool HF.out.symm, (Below.refl _ _).alloc (Nat.le_refl _) _⟩
 by_cases g2 : kh <= 6
 case neg =>
  have HF : Hid (R = false) := by unfold Hid; rw [<- HR.out, decide_eq_true g0, decide_eq_true g1, decide_eq_false g2]; simp
  go_enter Tryz.func27, Tryz.ntmps27
  go_wp2_with (go_at_call 30; refine HZ.out.mono ?_; rintro e w' ⟨rfl, rfl⟩)
  go_ret
  exact ⟨ret_bool HF.out.symm, (Below.refl _ _).alloc (Nat.le_refl _) _⟩
 by_cases g3 : kw <= 6
 case neg =>
  have HF : Hid (R = false) := by unfold Hid; rw [<- HR.out, decide_eq_true g0, decide_eq_true g1, decide_eq_true g2, decide_eq_false g3]; simp
  go_enter Tryz.func27, Tryz.ntmps27
  go_wp2_with (go_at_call 30; refine HZ.out.mono ?_; rintro e w' ⟨rfl, rfl⟩)
  go_ret
  exact ⟨ret_bool HF.out.symm, (Below.refl _ _).alloc (Nat.le_refl _) _⟩
 have HF : Hid (decide (p <= 4) = R) := by unfold Hid; rw [<- HR.out, decide_eq_true g0, decide_eq_true g1, decide_eq_true g2, decide_eq_true g3]; simp
 go_enter Tryz.func27, Tryz.ntmps27
 go_wp2_with (go_at_call 30; refine HZ.out.mono ?_; rintro e w' ⟨rfl, rfl⟩)
 go_ret
 exact ⟨ret_bool HF.out, (Below.refl _ _).alloc (Nat.le_refl _) _⟩
def PlG (V : Nat -> Value) (A : List Int) (N : Nat) (n : Int) (i : Nat) (v : Value) (w : World) : Prop :=
 match i with
 | 6 => ∃ a c, v = .tuple #[.slice a N c, .int .i64 n, .int .i64 0] /\ Ints w Any a A
 | 7 => ∃ a c, v = .tuple #[.slice a N c, .int .i64 n, .int .i64 0] /\ Ints w Any a A
 | 8 => ∃ a c, v = .slice a N c /\ Ints w Any a A
 | 9 => v = .int .i64 n
 | 10 => v = .int .i64 0
 | 11 => ∃ a c, v = .slice a N c /\ Ints w Any a A
 | 12 => v = .int .i64 n
 | 13 => v = .int .i64 0
 | i => v = V i
theorem PlG_below {V : Nat -> Value} {A : List Int} {N : Nat} {n : Int} {i : Nat} {v : Value} {w w' : World} (h : PlG V A N n i v w) (hb : Below w.heap.size w w') : PlG V A N n i v w' := by
 unfold PlG at h ⊢
 split at h
 ·obtain ⟨a, c, e, k⟩ := h; exact ⟨a, c, e, k.below hb⟩
 ·obtain ⟨a, c, e, k⟩ := h; exact ⟨a, c, e, k.below hb⟩
 ·obtain ⟨a, c, e, k⟩ := h; exact ⟨a, c, e, k.below hb⟩
 ·exact h
 ·exact h
 ·obtain ⟨a, c, e, k⟩ := h; exact ⟨a, c, e, k.below hb⟩
 ·exact h
 ·exact h
 ·exact h
structure PlI (wr wz : World) (g : Nat) (top sum : RatL) : Prop where
 top : RBox wz g top
 sum : RBox wz (g + 1) sum
 ge : wr.heap.size <= g
 bl : Below wr.heap.size wr wz
theorem PlI.below {wr wz W : World} {g : Nat} {a b : RatL} (h : PlI wr wz g a b) (hb : Below wz.heap.size wz W) : PlI wr W g a b := ⟨h.top.below hb, h.sum.below hb, h.ge, h.bl.trans (hb.mono h.bl.size)⟩
theorem U32s.far3 {W : World} {g : Nat} {a : Option Addr} {l : List Nat} (h : U32s W a l) (hN : NoInt W g) (b : Bool) (a1 a2 : Option Addr) (n1 c1 n2 c2 : Nat) : U32s (((W.setCell ⟨g, 0, none⟩ (.bool b)).setCell ⟨g, 1, none⟩ (.slice a1 n1 c1)).setCell ⟨g, 2, none⟩ (.slice a2 n2 c2)) a l :=
 ((h.setCell hN _ _).setCell (hN.setCell _ _ (by simp)) _ _).setCell ((hN.setCell _ _ (by simp)).setCell _ _ (by simp)) _ _
theorem RBox.far3 {W : World} {g h : Nat} {x : RatL} (n : RBox W h x) (hne : g ≠ h) (hN : NoInt W g) (b : Bool) (a1 a2 : Option Addr) (n1 c1 n2 c2 : Nat) : RBox (((W.setCell ⟨g, 0, none⟩ (.bool b)).setCell ⟨g, 1, none⟩ (.slice a1 n1 c1)).setCell ⟨g, 2, none⟩ (.slice a2 n2 c2)) h x := by
 obtain ⟨⟨an, ad, cn, cd, h1, h2, h3, h4, h5⟩, h6⟩ := n
 exact ⟨⟨an, ad, cn, cd, ((h1.farB hne _ _).farB hne _ _).farB hne _ _, h2, h3, h4.far3 hN _ _ _ _ _ _ _, h5.far3 hN _ _ _ _ _ _ _⟩, ((h6.far hne _ _).far hne _ _).far hne _ _⟩
theorem PlI.start {wo : World} {y : RatL} {an ad : Option Addr} {cn cd : Nat} (h2 : y.num.length <= cn) (h3 : y.den.length <= cd) (h4 : U32s wo an y.num) (h5 : U32s wo ad y.den) (T : Nat) :
  PlI wo ((wo.alloc (.cells #[.bool y.neg, .slice an y.num.length cn, .slice ad y.den.length cd] T)).alloc (.cells #[.bool false, .slice none 0 0, .slice none 0 0] T)) wo.heap.size y ⟨false, [], []⟩ := by
 have t := RBox.alloc h2 h3 h4 h5 T
 have hb1 : Below wo.heap.size wo (wo.alloc (.cells #[.bool y.neg, .slice an y.num.length cn, .slice ad y.den.length cd] T)) := (Below.refl _ _).alloc (Nat.le_refl _) _
 have hs : (wo.alloc (.cells #[.bool y.neg, .slice an y.num.length cn, .slice ad y.den.length cd] T)).heap.size = wo.heap.size + 1 := by simp
 generalize wo.alloc (.cells #[.bool y.neg, .slice an y.num.length cn, .slice ad y.den.length cd] T) = W at *
 have hb2 : Below W.heap.size W (W.alloc (.cells #[.bool false, .slice none 0 0, .slice none 0 0] T)) := (Below.refl _ _).alloc (Nat.le_refl _) _
 have u := (RNil.alloc W T).box
 rw [hs] at u
 exact ⟨t.below hb2, u, Nat.le_refl _, hb1.trans (hb2.mono hb1.size)⟩
theorem PlI.step {wr wz W : World} {g : Nat} {a b y z : RatL} {bn bd en ed : Option Addr} {dn dd fn fd : Nat} (h : PlI wr wz g a b) (hb : Below wz.heap.size wz W)
  (g2 : y.num.length <= dn) (g3 : y.den.length <= dd) (g4 : U32s W bn y.num) (g5 : U32s W bd y.den) (k2 : z.num.length <= fn) (k3 : z.den.length <= fd) (k4 : U32s W en z.num) (k5 : U32s W ed z.den) :
  PlI wr ((((((W.setCell ⟨g, 0, none⟩ (.bool y.neg)).setCell ⟨g, 1, none⟩ (.slice bn y.num.length dn)).setCell ⟨g, 2, none⟩ (.slice bd y.den.length dd)).setCell ⟨g + 1, 0, none⟩ (.bool z.neg)).setCell ⟨g + 1, 1, none⟩ (.slice en z.num.length fn)).setCell ⟨g + 1, 2, none⟩ (.slice ed z.den.length fd)) g y z := by
 have h := h.below hb
 have t := h.top.store g2 g3 g4 g5
 have u := h.sum.far3 (g := g) (by omega) h.top.nc y.neg bn bd y.num.length dn y.den.length dd
 have k4' := k4.far3 h.top.nc y.neg bn bd y.num.length dn y.den.length dd
 have k5' := k5.far3 h.top.nc y.neg bn bd y.num.length dn y.den.length dd
 have hbl : Below wr.heap.size wr _ := below_store3 h.bl h.ge (.bool y.neg) (.slice bn y.num.length dn) (.slice bd y.den.length dd)
 exact ⟨t.far3 (by omega) u.nc _ _ _ _ _ _ _, u.store k2 k3 k4' k5', h.ge, below_store3 hbl (Nat.le_succ_of_le h.ge) _ _ _⟩
structure MnJ (W : World) (X : Value) (n : Nat) (ten R : RatL) (d : Nat -> Bool) (g : Nat -> Value) (w : World) : Prop where
 bl : Below W.heap.size W w
 v0 : d 0 = true -> g 0 = X
 v1 : d 1 = true -> g 1 = .int .i64 (n : Int)
 v2 : d 2 = true -> d 3 = false -> RatV w (g 2) ten
 v3 : d 3 = true -> ∃ v, g 3 = .tuple #[v, .int .i64 0] /\ (d 8 = false -> RatV w v R) /\ (d 4 = true -> g 4 = .tuple #[v, .int .i64 0]) /\ (d 5 = true -> g 5 = v)
 v6 : d 6 = true -> g 6 = .int .i64 0
 v7 : d 7 = true -> ∃ b, g 7 = .pointer (some ⟨b, 0, none⟩) /\ W.heap.size <= b /\ (d 8 = false -> ∃ y, RBox w b y) /\ (d 8 = true -> RBox w b R)
 e4 : d 4 = true -> d 3 = true
 e5 : d 5 = true -> d 4 = true
 e6 : d 6 = true -> d 4 = true
 e8 : d 8 = true -> d 5 = true /\ d 7 = true
section
variable {W w : World} {X : Value} {n : Nat} {ten R : RatL} {d : Nat -> Bool} {g : Nat -> Value}
theorem MnJ.start (hb : Below W.heap.size W w) (g : Nat -> Value) : MnJ W X n ten R (fun _ => false) g w :=
 ⟨hb, fun h => absurd h (by decide), fun h => absurd h (by decide), fun h => absurd h (by decide), fun h => absurd h (by decide), fun h => absurd h (by decide), fun h => absurd h (by decide), fun h => absurd h (by decide), fun h => absurd h (by decide), fun h => absurd h (by decide), fun h => absurd h (by decide)⟩
theorem MnJ.grow {w' : World} (h : MnJ W X n ten R d g w) (hb : Below w.heap.size w w') : MnJ W X n ten R d g w' :=
 ⟨h.bl.trans (hb.mono h.bl.size), h.v0, h.v1, fun k1 k2 => (h.v2 k1 k2).below hb, fun k => let ⟨v, q1, q2, q3, q4⟩ := h.v3 k; ⟨v, q1, fun k8 => (q2 k8).below hb, q3, q4⟩, h.v6,
  fun k => let ⟨b, q1, q2, q3, q4⟩ := h.v7 k; ⟨b, q1, q2, fun k8 => let ⟨y, hy⟩ := q3 k8; ⟨y, hy.below hb⟩, fun k8 => (q4 k8).below hb⟩, h.e4, h.e5, h.e6, h.e8⟩
theorem MnJ.s0 (h : MnJ W X n ten R d g w) : MnJ W X n ten R (mark d 0) (upd g 0 X) w := ⟨h.bl, fun _ => rfl, h.v1, h.v2, h.v3, h.v6, h.v7, h.e4, h.e5, h.e6, h.e8⟩
theorem MnJ.s1 (h : MnJ W X n ten R d g w) : MnJ W X n ten R (mark d 1) (upd g 1 (.int .i64 (n : Int))) w := ⟨h.bl, h.v0, fun _ => rfl, h.v2, h.v3, h.v6, h.v7, h.e4, h.e5, h.e6, h.e8⟩
theorem MnJ.s2 {v : Value} (h : MnJ W X n ten R d g w) (hv : RatV w v ten) : MnJ W X n ten R (mark d 2) (upd g 2 v) w := ⟨h.bl, h.v0, h.v1, fun _ _ => hv, h.v3, h.v6, h.v7, h.e4, h.e5, h.e6, h.e8⟩
theorem MnJ.s3 {v : Value} (h : MnJ W X n ten R d g w) (h3 : d 3 = false) (hv : RatV w v R) : MnJ W X n ten R (mark d 3) (upd g 3 (.tuple #[v, .int .i64 0])) w :=
 have n4 : ∀ {p : Prop}, d 4 = true -> p := fun k => absurd ((h.e4 k).symm.trans h3) (by decide)
 ⟨h.bl, h.v0, h.v1, fun _ k => Bool.noConfusion (show true = false from k), fun _ => ⟨v, rfl, fun _ => hv, fun k => n4 k, fun k => n4 (h.e5 k)⟩, h.v6, h.v7, fun _ => rfl, h.e5, h.e6, h.e8⟩
theorem MnJ.s4 (h : MnJ W X n ten R d g w) (h3 : d 3 = true) : MnJ W X n ten R (mark d 4) (upd g 4 (g 3)) w :=
 ⟨h.bl, h.v0, h.v1, h.v2, fun k => let ⟨v, q1, q2, q3, q4⟩ := h.v3 k; ⟨v, q1, q2, fun _ => q1, q4⟩, h.v6, h.v7, fun _ => h3, fun _ => rfl, fun _ => rfl, h.e8⟩
theorem MnJ.s5 {v : Value} (h : MnJ W X n ten R d g w) (h4 : d 4 = true) (hv : g 3 = .tuple #[v, .int .i64 0]) : MnJ W X n ten R (mark d 5) (upd g 5 v) w :=
 ⟨h.bl, h.v0, h.v1, h.v2, fun k => let ⟨v', q1, q2, q3, q4⟩ := h.v3 k; ⟨v', q1, q2, q3, fun _ => by
  have e := hv.symm.trans q1
  simp only [Value.tuple.injEq] at e
  have := congrArg (fun a => a[0]?) e
  simpa [upd] using this⟩, h.v6, h.v7, h.e4, fun _ => h4, h.e6, fun k => ⟨rfl, (h.e8 k).2⟩⟩
theorem MnJ.s6 (h : MnJ W X n ten R d g w) (h4 : d 4 = true) : MnJ W X n ten R (mark d 6) (upd g 6 (.int .i64 0)) w :=
 ⟨h.bl, h.v0, h.v1, h.v2, h.v3, fun _ => rfl, h.v7, h.e4, h.e5, fun _ => h4, h.e8⟩
theorem MnJ.s7 {T : Nat} (h : MnJ W X n ten R d g w) (h7 : d 7 = false) : MnJ W X n ten R (mark d 7) (upd g 7 (.pointer (some ⟨w.heap.size, 0, none⟩))) (w.alloc (.cells #[.bool false, .slice none 0 0, .slice none 0 0] T)) :=
 have H := h.grow (w' := w.alloc (.cells #[.bool false, .slice none 0 0, .slice none 0 0] T)) ((Below.refl _ _).alloc (Nat.le_refl _) _)
 ⟨H.bl, H.v0, H.v1, H.v2, H.v3, H.v6, fun _ => ⟨w.heap.size, rfl, h.bl.size, fun _ => ⟨_, (RNil.alloc w T).box⟩, fun k => absurd ((h.e8 k).2.symm.trans h7) (by decide)⟩, H.e4, H.e5, H.e6, fun k => ⟨(h.e8 k).1, rfl⟩⟩
theorem MnJ.s8 {b : Nat} {y : RatL} {V : Value} {an ad : Option Addr} {cn cd : Nat} (h : MnJ W X n ten R d g w) (h5 : d 5 = true) (h7 : d 7 = true) (hp : g 7 = .pointer (some ⟨b, 0, none⟩)) (hb : W.heap.size <= b) (hB : RBox w b y)
  (q1 : R.num.length <= cn) (q2 : R.den.length <= cd) (q3 : U32s w an R.num) (q4 : U32s w ad R.den) :
  MnJ W X n ten R (mark d 8) (upd g 8 V) (((w.setCell ⟨b, 0, none⟩ (.bool R.neg)).setCell ⟨b, 1, none⟩ (.slice an R.num.length cn)).setCell ⟨b, 2, none⟩ (.slice ad R.den.length cd)) :=
 have h3 := h.e4 (h.e5 h5)
 ⟨below_store3 h.bl hb _ _ _, h.v0, h.v1, fun _ k => absurd (h3.symm.trans k) (by decide), fun k => let ⟨v, q1, q2, q3, q4⟩ := h.v3 k; ⟨v, q1, fun k8 => Bool.noConfusion (show true = false from k8), q3, q4⟩, h.v6,
  fun _ => ⟨b, hp, hb, fun k => Bool.noConfusion (show true = false from k), fun _ => hB.store q1 q2 q3 q4⟩, h.e4, h.e5, h.e6, fun _ => ⟨h5, h7⟩⟩
end
theorem PlI.put {wr wz W : World} {g : Nat} {a b y : RatL} {bn bd : Option Addr} {dn dd : Nat} (h : PlI wr wz g a b) (hb : Below wz.heap.size wz W) (g2 : y.num.length <= dn) (g3 : y.den.length <= dd) (g4 : U32s W bn y.num) (g5 : U32s W bd y.den) :
  PlI wr (((W.setCell ⟨g, 0, none⟩ (.bool y.neg)).setCell ⟨g, 1, none⟩ (.slice bn y.num.length dn)).setCell ⟨g, 2, none⟩ (.slice bd y.den.length dd)) g y b := by
 have h := h.below hb
 exact ⟨h.top.store g2 g3 g4 g5, h.sum.far3 (by omega) h.top.nc _ _ _ _ _ _ _, h.ge, below_store3 h.bl h.ge _ _ _⟩
theorem lawPools0 {w : World} {m : ModL} {L : List RatL} {a1 a2 ax : Option Addr} (c1 c2 cx : Nat) (h1 : Ints w Any a1 m.input) (h2 : LaysAt w a2 m.layers) (hr : ∀ l ∈ m.layers, LayRange l) (hs : ∀ l ∈ m.layers, LayLe l)
  (hX : RatsAt w ax L) (hL : ∀ x ∈ L, RatLe x 1048576) (hno : ∀ l, m.layers = [l] -> l.kind ≠ 3 /\ l.kind ≠ 4) :
  Calls Tryz.prog 10 #[.agg #[.slice a1 m.input.length c1, .slice a2 m.layers.length c2], .slice ax L.length cx] w fun e w' => e = .returned (.bool true) /\ Below w.heap.size w w' := by
 have q1 := h1.len
 have q2 := h2.len
 have q3 := hX.len
 have H1 := hid h1
 have H2 := hid h2
 have HX0 := hid hX
 have HRg := hid hr
 have HSh := hid hs
 have HL := hid hL
 have hb0 : Below w.heap.size w (w.alloc (.cells #[.slice a1 m.input.length c1, .slice a2 m.layers.length c2] 25)) := (Below.refl _ _).alloc (Nat.le_refl _) _
 have hx0 := Box2.alloc w (.slice a1 m.input.length c1) (.slice a2 m.layers.length c2) 25
 have HNo := hid hno
 clear h1 h2 hr hs hX hL hno
 go_enter Tryz.func10, Tryz.ntmps10
 go_upto_region 1 with fail
 generalize w.alloc (.cells #[.slice a1 m.input.length c1, .slice a2 m.layers.length c2] 25) = W at *
 have HB0 := hid hb0
 have HX00 := hid hx0
 clear hb0 hx0
 go_wp2_with fail
 refine (awake53 W).mono ?_
 rintro e w1 ⟨rfl, hb1⟩
 have HB1 := hid (HB0.out.trans (hb1.mono HB0.out.size))
 have HX1 := hid (HX00.out.below hb1)
 clear hb1
 obtain ⟨x0, x1, xf, xlt⟩ := HX1.out
 go_upto_region 3 with fail
 by_cases hlen : m.layers.length = 1
 case neg =>
  have t1 : ((m.layers.length : Int) != 1) = true := by rw [bne_iff_ne]; omega
  have e1 := ext_cell x1 xlt
  have e0 := ext_cell x0 xlt
  clear x0 x1
  refine wp_region_quiet_ext (by kernel_rfl) (by kernel_rfl) ?_
  repeat (go_big_quiet_step (fail))
  refine wpQuiet_nil ?_
  intro _ hw'
  obtain ⟨nq, hw''⟩ := hw'
  subst hw''
  have HB2 := hid (HB1.out.trans ((ext_below w1 nq).mono HB1.out.size))
  have HX2 := hid (HX1.out.below (ext_below w1 nq))
  have HB12 := hid (ext_below w1 nq)
  generalize ext w1 nq = w2 at *
  go_wp2
  go_ret
  exact ⟨rfl, HB2.out⟩
 obtain ⟨bl, ol, l, ha2, hbl, hl, b1, b2, d1, d2, ⟨l0, l1, l2, l3, l4, l5, l6, l7, l8⟩, r1, r2⟩ := (H2.out.below HB1.out).pick (k := 0) (by omega)
 have hm : m.layers = [l] := by
  match m.layers, hlen, hl with
  | [a], _, hl => simp at hl; rw [hl]
 have hml : l ∈ m.layers := by rw [hm]; simp
 have hle := HSh.out l hml
 subst ha2
 rw [hlen] at x1
 have e0 := ext_cell x0 xlt
 have e1 := ext_cell x1 xlt
 simp only [Nat.zero_mul, Nat.add_zero] at l0 l1 l2 l3 l4 l5 l6 l7 l8
 have f0 := ext_cell l0 hbl
 have f1 := ext_cell l1 hbl
 have f2 := ext_cell l2 hbl
 have f3 := ext_cell l3 hbl
 have f4 := ext_cell l4 hbl
 have f5 := ext_cell l5 hbl
 have f6 := ext_cell l6 hbl
 have f7 := ext_cell l7 hbl
 have f8 := ext_cell l8 hbl
 have HSm : Hid (∀ e, Calls Tryz.prog 27 #[.slice a1 m.input.length c1, .agg #[.int .i64 l.kind, .int .i64 l.frm, .int .i64 l.out, .int .i64 l.kh, .int .i64 l.kw, .int .i64 l.stride, .int .i64 l.pad, .slice b1 l.weights.length d1, .slice b2 l.bias.length d2]] (ext w1 e) fun x w' => x = .returned (.bool (small5B m.input l.kh l.kw l.pad)) /\ Below (ext w1 e).heap.size (ext w1 e) w') := fun e =>
  small53v c1 l.kind l.frm l.out l.kh l.kw l.stride l.pad b1 l.weights.length d1 b2 l.bias.length d2 (H1.out.below (HB1.out.trans ((ext_below w1 e).mono HB1.out.size)))
 have HNx : Hid (∀ e, Calls Tryz.prog 28 #[.slice ax L.length cx] (ext w1 e) fun x w' => x = .returned (.bool (numB L)) /\ Below (ext w1 e).heap.size (ext w1 e) w') := fun e =>
  kNumbers cx (HX0.out.below (HB1.out.trans ((ext_below w1 e).mono HB1.out.size))) HL.out
 have HLa : Hid (∀ W', Below w1.heap.size w1 W' -> bl < W'.heap.size /\ W'.cell? ⟨bl, ol, none⟩ = some (.int .i64 l.kind) /\ W'.cell? ⟨bl, ol + 1, none⟩ = some (.int .i64 l.frm) /\ W'.cell? ⟨bl, ol + 2, none⟩ = some (.int .i64 l.out) /\ W'.cell? ⟨bl, ol + 3, none⟩ = some (.int .i64 l.kh) /\ W'.cell? ⟨bl, ol + 4, none⟩ = some (.int .i64 l.kw) /\
   W'.cell? ⟨bl, ol + 5, none⟩ = some (.int .i64 l.stride) /\ W'.cell? ⟨bl, ol + 6, none⟩ = some (.int .i64 l.pad) /\ W'.cell? ⟨bl, ol + 7, none⟩ = some (.slice b1 l.weights.length d1) /\ W'.cell? ⟨bl, ol + 8, none⟩ = some (.slice b2 l.bias.length d2)) := fun W' hb =>
  ⟨Nat.lt_of_lt_of_le hbl hb.size, (hb.cell (p := ⟨bl, ol, none⟩) hbl).trans l0, (hb.cell (p := ⟨bl, ol + 1, none⟩) hbl).trans l1, (hb.cell (p := ⟨bl, ol + 2, none⟩) hbl).trans l2, (hb.cell (p := ⟨bl, ol + 3, none⟩) hbl).trans l3, (hb.cell (p := ⟨bl, ol + 4, none⟩) hbl).trans l4,
   (hb.cell (p := ⟨bl, ol + 5, none⟩) hbl).trans l5, (hb.cell (p := ⟨bl, ol + 6, none⟩) hbl).trans l6, (hb.cell (p := ⟨bl, ol + 7, none⟩) hbl).trans l7, (hb.cell (p := ⟨bl, ol + 8, none⟩) hbl).trans l8⟩
 have HR1 := hid r1
 have HR2 := hid r2
 have HM := hid hm
 have HLen := hid hlen
 have HLe := hid hle
 have HMl := hid hml
 clear l0 l1 l2 l3 l4 l5 l6 l7 l8 x0 x1 r1 r2 hl hm hle hml hlen
 by_cases hv0 : small5B m.input l.kh l.kw l.pad = true
 case neg =>
  rw [Bool.not_eq_true] at hv0
  rw [hv0] at HSm
  clear hv0
  refine wp_region_quiet_ext (by kernel_rfl) (by kernel_rfl) ?_
  repeat (go_big_quiet_step (first | (go_at_call 27; with_reducible exact Calls.ext_of (HSm.out _)) | (go_at_call 28; with_reducible exact Calls.ext_of (HNx.out _))))
  refine wpQuiet_nil ?_
  intro _ hw'
  obtain ⟨nq, hw''⟩ := hw'
  subst hw''
  have HB2 := hid (HB1.out.trans ((ext_below w1 nq).mono HB1.out.size))
  have HX2 := hid (HX1.out.below (ext_below w1 nq))
  have HB12 := hid (ext_below w1 nq)
  generalize ext w1 nq = w2 at *
  go_wp2
  go_ret
  exact ⟨rfl, HB2.out⟩
 rw [hv0] at HSm
 have Vhv0 := hid hv0
 clear hv0
 by_cases hv1 : numB L = true
 case neg =>
  rw [Bool.not_eq_true] at hv1
  rw [hv1] at HNx
  clear hv1
  refine wp_region_quiet_ext (by kernel_rfl) (by kernel_rfl) ?_
  repeat (go_big_quiet_step (first | (go_at_call 27; with_reducible exact Calls.ext_of (HSm.out _)) | (go_at_call 28; with_reducible exact Calls.ext_of (HNx.out _))))
  refine wpQuiet_nil ?_
  intro _ hw'
  obtain ⟨nq, hw''⟩ := hw'
  subst hw''
  have HB2 := hid (HB1.out.trans ((ext_below w1 nq).mono HB1.out.size))
  have HX2 := hid (HX1.out.below (ext_below w1 nq))
  have HB12 := hid (ext_below w1 nq)
  generalize ext w1 nq = w2 at *
  go_wp2
  go_ret
  exact ⟨rfl, HB2.out⟩
 rw [hv1] at HNx
 have Vhv1 := hid hv1
 clear hv1
 have t5 : (l.kind != 3) = true := by rw [bne_iff_ne]; exact (HNo.out l HM.out).1
 have t6 : (l.kind != 4) = true := by rw [bne_iff_ne]; exact (HNo.out l HM.out).2
 refine wp_region_quiet_ext (by kernel_rfl) (by kernel_rfl) ?_
 repeat (go_big_quiet_step (first | (go_at_call 27; with_reducible exact Calls.ext_of (HSm.out _)) | (go_at_call 28; with_reducible exact Calls.ext_of (HNx.out _))))
 refine wpQuiet_nil ?_
 intro _ hw'
 obtain ⟨nq, hw''⟩ := hw'
 subst hw''
 have HB2 := hid (HB1.out.trans ((ext_below w1 nq).mono HB1.out.size))
 have HX2 := hid (HX1.out.below (ext_below w1 nq))
 have HB12 := hid (ext_below w1 nq)
 generalize ext w1 nq = w2 at *
 go_wp2
 go_ret
 exact ⟨rfl, HB2.out⟩
end Go.Proofs.YtoppijdedkdjeaaGreat

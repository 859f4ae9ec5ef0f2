/-
  Contracts of the functions that the statement reaches: RefH, RefI.
-/
import Derived.Test.YtoppijdedkdjeaaGreatG16
import Derived.Deep.RegionWith
set_option linter.unusedVariables false
set_option linter.unusedSimpArgs false
set_option linter.constructorNameAsVariable false
set_option linter.deprecated false
set_option maxRecDepth 100000
set_option maxHeartbeats 3200000
namespace Go.Proofs.YtoppijdedkdjeaaGreat
open Go.RowKit
open Go.Lib (hid)
def RetDM (w : World) (x y : Nat) (e : Ending) (w' : World) : Prop := ∃ a c b d, e = .returned (.tuple #[.slice a (limbs (x / y)).length c, .slice b (limbs (x % y)).length d, .int .i64 0]) /\ (limbs (x / y)).length <= c /\ (limbs (x % y)).length <= d /\ U32s w' a (limbs (x / y)) /\ U32s w' b (limbs (x % y)) /\ Below w.heap.size w w'
theorem r1DivMod_small {w : World} {a b : Option Addr} {l m : List Nat} {x y : Nat} (c d : Nat) (hc : l.length <= c) (hd : m.length <= d) (h : U32s w a l) (g : U32s w b m) (hx : lval l = x) (hy : lval m = y) (hr : l.length <= 2097152) (hr2 : m.length <= 2097152) (hy0 : 0 < y)
  (h1 : (limbs x).length <= 2) (h2 : (limbs y).length <= 2) :
  Calls Tryz.prog 88 #[.slice a l.length c, .slice b m.length d] w (RetDM w x y) := by
 have HA := hid (r1Uint c hc h hx (by omega))
 have HB := hid (fun wv (hu : U32s wv b m) => r1Uint d hd hu hy (by omega))
 have HG := hid g
 have HO1 : Hid (uintOK x = true) := decide_eq_true h1
 have HO2 : Hid (uintOK y = true) := decide_eq_true h2
 have HX := hid (limbs_two h1)
 have HY := hid (limbs_two h2)
 rw [HO1.out, if_pos h1] at HA
 simp only [HO2.out, if_pos h2] at HB
 have hz1 : ((y : Int) == 0) = false := by rw [beq_eq_false_iff_ne]; omega
 clear h g hx hy hc hd h1 h2
 go_enter Tryz.func88, Tryz.ntmps88
 go_wp2_with fail
 refine HA.out.mono ?_
 rintro e w1 ⟨rfl, hb1⟩
 have HB2 := HB.out w1 (HG.out.below hb1)
 have HC := hid HB2
 have HB1 := hid hb1
 clear HA HB HB2 hb1
 go_wp2_with fail
 refine HC.out.mono ?_
 rintro e w2 ⟨rfl, hb2⟩
 have HB2 := hid (HB1.out.trans (hb2.mono HB1.out.size))
 have HYp := hid hy0
 clear hb2 HC HB1
 have D1 := tdiv_nat' x y
 have D2 := tmod_nat' x y
 have D3 : Hid (x / y < 18446744073709551616) := Nat.lt_of_le_of_lt (Nat.div_le_self _ _) HX.out
 have D4 : Hid (x % y < 18446744073709551616) := Nat.lt_of_le_of_lt (Nat.mod_le _ _) HX.out
 have O1 : Hid (∀ wv, Calls Tryz.prog 90 #[.int .u64 (IntKind.u64.wrap ((x : Int) / (y : Int)))] wv (RetF wv (x / y))) := fun wv => by
  have h := r1Of (x / y) D3.out wv
  rwa [show ((x / y : Nat) : Int) = IntKind.u64.wrap ((x : Int) / (y : Int)) by rw [IntKind.wrap_u64, <- Int.natCast_ediv]; have := D3.out; generalize x / y = q at *; omega] at h
 have O2 : Hid (∀ wv, Calls Tryz.prog 90 #[.int .u64 ((x : Int) % (y : Int))] wv (RetF wv (x % y))) := fun wv => by
  have h := r1Of (x % y) D4.out wv
  rwa [Int.natCast_emod] at h
 go_wp2
 go_region_with (go_at_call 90; first | ((with_reducible refine (O1.out _).mono ?_); rintro e w3 ⟨a3, c3, rfl, h3, h4, h5, h6⟩) | ((with_reducible refine (O2.out _).mono ?_); rintro e w3 ⟨b3, d3, rfl, g3, g4, g5, g6⟩))
 all_goals
  go_wp2
  go_ret3
  have k5 := (Below.refl w2.heap.size w2).drew.trans h5
  exact ⟨a3, c3, b3, d3, rfl, h3, g3, h4.below g5, g4, HB2.out.trans ((k5.trans (g5.mono k5.size)).mono HB2.out.size)⟩
theorem U32s.setFar {w : World} {g : Nat} {a : Option Addr} {l : List Nat} (h : U32s w a l) (hf : Far (g + 1) a) (o : Nat) (v : Value) : U32s (w.setCell ⟨g, o, none⟩ v) a l := by
 by_cases hl : l = []
 ·rw [hl]; exact U32s.nil _ _
 obtain ⟨b, off, rfl, hb, hc⟩ := h.open hl
 have hne : b ≠ g := by
  have := hf _ rfl
  simp only at this
  omega
 exact ((Only.refl g w).setCell o v).u32s hne h
theorem or_bit {a s : Nat} (ha : a < 4294967296) (hs : s < 32) : bits .or .u32 (a : Int) (2 ^ s % 4294967296) = ((a ||| 2 ^ s : Nat) : Int) := by
 have h1 : 2 ^ s <= 2 ^ 31 := Nat.pow_le_pow_right (by omega) (by omega)
 have h2 : ((2 : Int) ^ s % 4294967296) = ((2 ^ s : Nat) : Int) := by
  have : ((2 : Int) ^ s) = ((2 ^ s : Nat) : Int) := by simp
  rw [this]; clear this; generalize 2 ^ s = p at *; omega
 rw [h2, bits_or_u32_nat _ _ ha (by omega)]
theorem and_one_u32 (a : Nat) (ha : a < 4294967296) : bits .and .u32 (a : Int) 1 = ((a % 2 : Nat) : Int) := by
 have h1 : (BitVec.ofInt 32 (a : Int)).toNat = a := by
  rw [BitVec.ofInt_natCast, BitVec.toNat_ofNat]; exact Nat.mod_eq_of_lt (by omega)
 show IntKind.u32.wrap ((BitVec.ofInt 32 (a : Int) &&& BitVec.ofInt 32 (1 : Int)).toNat : Int) = _
 rw [BitVec.toNat_and, h1, show (BitVec.ofInt 32 (1 : Int)).toNat = 1 from rfl, Nat.and_one_is_mod, IntKind.wrap_u32]
 omega
theorem dbl_len {R m b : Nat} (h : (limbs R).length <= m) (hb : b < 2) : (limbs (R * 2 + b)).length <= m + 1 := by
 apply limbs_len_le
 have h1 := Nat.lt_of_lt_of_le (limbs_len_lt R) (Nat.pow_le_pow_right (show 0 < 4294967296 by omega) h)
 rw [Nat.pow_succ]
 omega
theorem U32s.one (w : World) {b : Nat} (hb : b < 4294967296) (T : Nat) : U32s (w.alloc (.cells #[.int .u32 (b : Int)] T)) (some ⟨w.heap.size, 0, none⟩) [b] := by
 refine ⟨by intro d hd; simp at hd; omega, by simp, .inr ⟨w.heap.size, 0, rfl, by simp, fun j d hj => ?_⟩⟩
 rw [World.cell?_alloc_at _ _ _ _ rfl]
 match j, hj with
 | 0, hj => simp at hj; subst hj; simp
theorem r1DivMod_long {w : World} {a b : Option Addr} {l m : List Nat} {x y : Nat} (c d : Nat) (hc : l.length <= c) (hd : m.length <= d) (h : U32s w a l) (g : U32s w b m) (hx : lval l = x) (hy : lval m = y) (hr : l.length <= 2097152) (hr2 : m.length <= 2097152) (hy0 : 0 < y)
  (h12 : ¬ ((limbs x).length <= 2 /\ (limbs y).length <= 2)) :
  Calls Tryz.prog 88 #[.slice a l.length c, .slice b m.length d] w (RetDM w x y) := by
 have HA := hid (r1Uint c hc h hx (by omega))
 have HB := hid (fun wv (hu : U32s wv b m) => r1Uint d hd hu hy (by omega))
 have HBt := hid (fun wv (hu : U32s wv a l) => r1Bits c hc hu hx (by omega))
 have HU := hid h
 have HG := hid g
 have HX := hid hx
 have HY := hid hy
 have hlx : (limbs x).length <= l.length := by rw [<- hx]; exact limbs_len_of_lval h.lim
 obtain ⟨i0, hi, hz3, hz4, hz5⟩ := info_parts Tryz.infoU32
 have hfl : (uintOK y && (if (limbs y).length <= 2 then (y : Int) else 0) == 0) = false /\ (uintOK x && uintOK y) = false := by
  unfold uintOK
  by_cases h1 : (limbs y).length <= 2
  ·have h2 : ¬ (limbs x).length <= 2 := fun h => h12 ⟨h, h1⟩
   simp [h1, h2]; omega
  ·simp [h1]
 obtain ⟨f1, f2⟩ := hfl
 clear h g hx hy hc hd h12
 go_enter Tryz.func88, Tryz.ntmps88
 go_wp2_with fail
 refine HA.out.mono ?_
 rintro e w1 ⟨rfl, hb1⟩
 have HB2 := HB.out w1 (HG.out.below hb1)
 have HC := hid HB2
 have HB1 := hid hb1
 clear HA HB HB2 hb1
 generalize (if (limbs x).length <= 2 then (x : Int) else 0) = X at *
 generalize (if (limbs y).length <= 2 then (y : Int) else 0) = Y at *
 generalize uintOK x = P at *
 generalize uintOK y = Q at *
 go_wp2_with fail
 refine HC.out.mono ?_
 rintro e w2 ⟨rfl, hb2⟩
 have HB2 := hid (HB1.out.trans (hb2.mono HB1.out.size))
 have HYp := hid hy0
 clear hb2 HC HB1
 have hPQ : (Q = false /\ P = false) ∨ (Q = false /\ P = true) ∨ (Q = true /\ P = false /\ (Y == 0) = false) := by
  cases Q <;> cases P <;> simp_all
 clear f1 f2
 rcases hPQ with ⟨rfl, rfl⟩ | ⟨rfl, rfl⟩ | ⟨rfl, rfl, hY0⟩
 all_goals
  go_wp2_with (at_make; refine wpList_make_full _ rfl _ _ 34 rfl w2.heap.size 107 i0 (.int .u32 0) 1 Tryz.underlying34 hi hz3 hz4 _ _ _ _ l.length rfl rfl (by omega) (by omega) ?b2 ?b3 (Nat.le_refl _) ?_)
  case b2 => rw [hz5]; omega
  case b3 => unfold maxLen; omega
  intro w3 hown hgrow
  have HB0 : Hid (Blk w3 w2.heap.size l.length (limbOf 0) 107) := by
   refine Blk.of_own (base := w2.heap.size) ?_
   have e : (madeCells #[Value.int IntKind.u32 0] l.length).toList = (List.range l.length).map fun i => Value.int .u32 ((limbOf 0 i : Nat) : Int) := by
    simp [toList_madeCells_one, List.map_const', limbOf_zero]
   rw [<- e]; exact hown
  have hb3 : Below w2.heap.size w2 w3 := (Below.refl _ _).grown hgrow (Nat.le_refl _) (fun k h => by cases h)
  clear hown hgrow
  try clear hY0
  go_wp2_with fail
  refine (HBt.out _ (HU.out.below ((HB2.out.trans (hb3.mono HB2.out.size)).alloc (Nat.le_trans HB2.out.size hb3.size) _))).mono ?_
  rintro e w4 ⟨n, rfl, hn1, hn2, hb4⟩
  have HN1 := hid hn1.1
  have hb34 := ((Below.refl _ w3).alloc (Nat.le_refl _) _).trans (hb4.mono (by simp))
  have HBk : Hid (Blk w4 w2.heap.size l.length (limbOf (quoAt x y n)) 107) := by
   rw [(at_top HN1.out).2]
   exact HB0.out.below hb34
  have HB4 := hid (hb3.trans (hb34.mono hb3.size))
  have hR0 := (at_top (B := y) HN1.out).1
  have HF0 : Hid (Far (w2.heap.size + 1) (some ⟨w3.heap.size, 0, none⟩)) := fun p e => by cases e; exact HB0.out.lt
  clear HB0 hb3 hb4 hb34 hn1 HBt
  go_wp2
  go_loopw [12, 13] (fun r i wr => ∃ (k : Nat) (I : Int) (a1 : Option Addr) (c1 : Nat), k <= n /\ I + 1 = (k : Int) /\ i = .int .i64 I /\ r = .slice a1 (limbs (remAt x y k)).length c1 /\ (limbs (remAt x y k)).length <= c1 /\ Hid (U32s wr a1 (limbs (remAt x y k))) /\ Hid (Far (w2.heap.size + 1) a1) /\ Hid (Blk wr w2.heap.size l.length (limbOf (quoAt x y k)) 107) /\ Hid (Below w2.heap.size w2 wr)) (fun _ i _ => (intOf i + 1).toNat)
  case atStart => exact ⟨n, _, _, 0, Nat.le_refl _, by omega, rfl, by rw [hR0, limbs_zero]; rfl, by rw [hR0, limbs_zero]; exact Nat.le_refl _, by unfold Hid; rw [hR0, limbs_zero]; exact U32s.nil _ _, HF0, HBk, HB4⟩
  case round =>
   clear hR0 HF0 HBk HB4
   obtain ⟨k, I, a1, c1, hk, hI, rfl, rfl, hc1, HR, HF, HBk, HBw⟩ := hrel
   cases k with
   | zero =>
    obtain rfl : I = -1 := by omega
    have hxl : x < 4294967296 ^ l.length := by rw [<- HX.out]; exact lval_lt HU.out.lim
    have hv : lval ((List.range l.length).map (limbOf (quoAt x y 0))) = x / y := by
     rw [lval_map, valN_limbOf _ _ (Nat.lt_of_le_of_lt (quoAt_le _ _ _) hxl), (at_end x y).2]
    have hU := HBk.out.u32s (fun i _ => limbOf_lt _ _) (by omega)
    have hM := r1Make l.length (by simp) hU (by simp; omega)
    rw [hv] at hM
    simp only [List.length_map, List.length_range] at hM
    have HM := hid hM
    rw [(at_end x y).1] at hc1 HR ⊢
    clear hM hU hv hxl
    go_wp2_with fail
    refine HM.out.mono ?_
    rintro e w5 ⟨a2, c2, rfl, h2, g2, hb5, hf5⟩
    have g3 := hid (HR.out.below hb5)
    have g4 := hid g2
    have HB5 := hid (HB2.out.trans ((HBw.out.trans (hb5.mono HBw.out.size)).mono HB2.out.size))
    clear HM hb5 hf5 g2
    go_wp2
    go_ret3
    exact ⟨a2, c2, a1, c1, rfl, h2, hc1, g4.out, g3.out, HB5.out⟩
   | succ q =>
    obtain rfl : I = (q : Int) := by omega
    have hRy : remAt x y (q + 1) < y := Nat.mod_lt _ HYp.out
    have hlR : (limbs (remAt x y (q + 1))).length <= m.length := Nat.le_trans (limbs_len_mono (Nat.le_of_lt hRy)) (by rw [<- HY.out]; exact limbs_len_of_lval HG.out.lim)
    have hS := r1shl c1 0 1 1 (by omega) (by omega) (by omega) HR.out (lval_limbs _) (by omega)
    rw [Nat.pow_one] at hS
    have HS := hid hS
    clear hS
    obtain ⟨p1, o1, rfl, hp1, q1⟩ := (HU.out.below (HB2.out.trans (HBw.out.mono HB2.out.size))).pick (show q / 32 < l.length by omega)
    have hbit : bits .and .u32 ((dig l (q / 32) : Int) / 2 ^ (q % 32)) 1 = ((bitAt x q : Nat) : Int) := by
     rw [<- HX.out, bitAt_dig HU.out.lim, show ((dig l (q / 32) : Int) / 2 ^ (q % 32)) = ((dig l (q / 32) / 2 ^ (q % 32) : Nat) : Int) by simp, and_one_u32 _ (Nat.lt_of_le_of_lt (Nat.div_le_self _ _) (dig_lt HU.out.lim _))]
    have hdl := dig_lt HU.out.lim (q / 32)
    have hB2 := bitAt_lt x q
    have HGe := hid (fun h => step_ge (A := x) (B := y) (i := q) HYp.out h)
    have HLt := hid (fun h => step_lt (A := x) (B := y) (i := q) h)
    generalize hRR : remAt x y (q + 1) = R at *
    have HRR := hid hRR
    generalize bitAt x q = B at *
    generalize dig l (q / 32) = dg at *
    clear hRR
    go_wp2_with fail
    refine HS.out.mono ?_
    rintro e w5 ⟨a2, c2, rfl, h2, g2, hb5, hf5⟩
    have q2 : w5.cell? ⟨p1, o1 + q / 32, none⟩ = _ := (hb5.cell hp1).trans q1
    have g3 := hid g2
    have HB5 := hid hb5
    have HF5 := hid hf5
    clear HS hb5 hf5 g2 q1
    have hl2 : (limbs (R * 2)).length <= m.length + 1 := dbl_len (b := 0) hlR (by omega)
    have hl3 := dbl_len hlR hB2
    have hA := r1Add (w := w5.alloc (.cells #[.int .u32 (B : Int)] 107)) c2 1 (g3.out.below ((Below.refl _ _).alloc (Nat.le_refl _) _)) (U32s.one w5 (by omega) _) (lval_limbs _) (lval_one B) (by omega) (by simp)
    have HA := hid hA
    clear hA
    go_wp2_with fail
    refine HA.out.mono ?_
    rintro e w6 ⟨a3, c3, rfl, h6, g6, hb6, hf6⟩
    have G6 := hid g6
    have hb56 := ((Below.refl _ w5).alloc (Nat.le_refl _) _).trans (hb6.mono (by simp))
    have hb26 := HBw.out.trans ((HB5.out.trans (hb56.mono HB5.out.size)).mono HBw.out.size)
    have HB26 := hid hb26
    have HC6 := hid (r1Cmp c3 d g6 (HG.out.below (HB2.out.trans (hb26.mono HB2.out.size))))
    rw [lval_limbs, HY.out] at HC6
    have HF6 := hid (hf6.mono (show w2.heap.size + 1 <= _ from Nat.le_trans (Nat.le_trans HBk.out.lt HB5.out.size) (by simp)))
    have HBk6 := hid (HBk.out.below (HB5.out.trans (hb56.mono HB5.out.size)))
    clear HA hb6 hf6 g6 hb56 hb26 g3 HR HBk HBw HB5 HF5 HF hbit q2
    go_wp2_with fail
    refine HC6.out.mono ?_
    rintro e w7 ⟨rfl, rfl⟩
    have HGe2 : Hid (y <= R * 2 + B -> remAt x y q = R * 2 + B - y /\ quoAt x y q = quoAt x y (q + 1) ||| 2 ^ q) := fun h => by
     have := HGe.out (by omega)
     rwa [Nat.mul_comm 2 R] at this
    have HLt2 : Hid (R * 2 + B < y -> remAt x y q = R * 2 + B /\ quoAt x y q = quoAt x y (q + 1)) := fun h => by
     have := HLt.out (by omega)
     rwa [Nat.mul_comm 2 R] at this
    clear HGe HLt HC6 hl2
    generalize R * 2 + B = N at *
    by_cases hge : y <= N
    ·have hcm : decide (0 <= cmpN N y) = true := by
      apply decide_eq_true
      unfold cmpN
      rw [if_neg (by omega)]
      split <;> omega
     have HS := hid (r1Sub c3 d G6.out (HG.out.below (HB2.out.trans (HB26.out.mono HB2.out.size))) (lval_limbs N) HY.out (by omega) (by omega))
     go_wp2_with fail
     refine HS.out.mono ?_
     rintro e w8 (⟨hlt, _⟩ | ⟨_, hb8, a4, c4, rfl, h8, g8, hf8⟩)
     ·omega
     have HB8 := hid (HB26.out.trans (hb8.mono HB26.out.size))
     have hbk8 := HBk6.out.below hb8
     have k1 := hbk8.cell (x := q / 32) (by omega)
     have k2 := hbk8.free (q / 32)
     have hlo := limbOf_lt (quoAt x y (q + 1)) (q / 32)
     have HBk8 := hid hbk8
     have HF8 := hid (hf8.mono (show w2.heap.size + 1 <= _ from Nat.le_trans HBk6.out.lt (Nat.le_refl _)))
     have G8 := hid g8
     clear HS hb8 hbk8 g8 hf8 HF6 HBk6 HB26 G6 hcm
     go_wp2
     go_region
     go_wp2
     go_roundw
     case rel =>
      have e := HGe2.out hge
      refine ⟨q, (q : Int) - 1, a4, c4, by omega, by omega, rfl, by rw [e.1], by rw [e.1]; exact h8, by rw [e.1]; exact (G8.out.setFar HF8.out _ _).drewN 1, HF8, ?_, ((HB8.out.setCell (Nat.le_refl _) _).drew)⟩
      unfold Hid
      rw [e.2, or_bit hlo (Nat.mod_lt _ (by omega))]
      exact ((HBk8.out.set (q / 32) _).congr (fun i _ => by rw [limbOf_or]; by_cases hi : i = q / 32 <;> simp [hi])).drewN 1
     case measure => simp [intOf]
    ·have hcm : decide (0 <= cmpN N y) = false := by
      apply decide_eq_false
      unfold cmpN
      rw [if_pos (by omega)]
      omega
     go_wp2
     go_roundw
     case rel =>
      have e := HLt2.out (by omega)
      refine ⟨q, (q : Int) - 1, a3, c3, by omega, by omega, rfl, by rw [e.1], by rw [e.1]; exact h6, by rw [e.1]; exact G6, HF6, by rw [e.2]; exact HBk6, HB26⟩
     case measure => simp [intOf]
theorem r1DivMod {w : World} {a b : Option Addr} {l m : List Nat} {x y : Nat} (c d : Nat) (hc : l.length <= c) (hd : m.length <= d) (h : U32s w a l) (g : U32s w b m) (hx : lval l = x) (hy : lval m = y) (hr : l.length <= 2097152) (hr2 : m.length <= 2097152) (hy0 : 0 < y) :
  Calls Tryz.prog 88 #[.slice a l.length c, .slice b m.length d] w (RetDM w x y) := by
 by_cases h12 : (limbs x).length <= 2 /\ (limbs y).length <= 2
 ·exact r1DivMod_small c d hc hd h g hx hy hr hr2 hy0 h12.1 h12.2
 ·exact r1DivMod_long c d hc hd h g hx hy hr hr2 hy0 h12
theorem r1Gcd {w : World} {a b : Option Addr} {l m : List Nat} {x y : Nat} (c d : Nat) (hc : l.length <= c) (hd : m.length <= d) (h : U32s w a l) (g : U32s w b m) (hx : lval l = x) (hy : lval m = y) (hr : l.length <= 2097152) (hr2 : m.length <= 2097152) :
  Calls Tryz.prog 87 #[.slice a l.length c, .slice b m.length d] w (RetN w (Nat.gcd x y)) := by
 have hA := r1Make c hc h (by omega)
 rw [hx] at hA
 have HA := hid hA
 have HB := hid (fun wv (hu : U32s wv b m) => r1Make d hd hu (by omega))
 rw [hy] at HB
 have HG := hid g
 have hle : (limbs x).length <= l.length := by rw [<- hx]; exact limbs_len_of_lval h.lim
 have hle2 : (limbs y).length <= m.length := by rw [<- hy]; exact limbs_len_of_lval g.lim
 clear h g hx hy hc hd hA
 go_enter Tryz.func87, Tryz.ntmps87
 go_wp2_with fail
 refine HA.out.mono ?_
 rintro e w1 ⟨a1, c1, rfl, hc1, ha1, hb1, _⟩
 have HB2 := hid (HB.out w1 (HG.out.below hb1))
 have HA1 := hid ha1
 have HBe := hid hb1
 clear HA HB ha1 hb1
 go_wp2_with fail
 refine HB2.out.mono ?_
 rintro e w2 ⟨b1, d1, rfl, hd1, hb2, hbb2, _⟩
 have HA2 := hid (HA1.out.below hbb2)
 have HB3 := hid hb2
 have HBw := hid (HBe.out.trans (hbb2.mono HBe.out.size))
 clear HB2 hb2 hbb2 HA1 HBe
 go_wp2
 go_loopg [0, 1] y (fun k p q wr => ∃ (A B : Nat) (a1 b1 : Option Addr) (c1 d1 : Nat), k = B /\ p = .slice a1 (limbs A).length c1 /\ q = .slice b1 (limbs B).length d1 /\ (limbs A).length <= c1 /\ (limbs B).length <= d1 /\ (limbs A).length <= 2097152 /\ (limbs B).length <= 2097152 /\ Hid (U32s wr a1 (limbs A)) /\ Hid (U32s wr b1 (limbs B)) /\ Hid (Nat.gcd A B = Nat.gcd x y) /\ Below w.heap.size w wr)
 case atStart => exact ⟨x, y, a1, b1, c1, d1, rfl, rfl, rfl, hc1, hd1, by omega, by omega, HA2, HB3, rfl, HBw.out⟩
 case round =>
  clear HA2 HB3 hc1 hd1 hle hle2 hr hr2 HBw
  obtain ⟨A, B, a1, b1, c1, d1, hgk, rfl, rfl, hc1, hd1, hrA, hrB, HA1, HB1, HG, hb⟩ := hrel
  have HGk := hid hgk
  clear hgk
  by_cases h0 : B = 0
  ·subst h0
   have HG0 : Hid (A = Nat.gcd x y) := by have := HG.out; rw [Nat.gcd_zero_right] at this; exact this
   rw [limbs_zero] at *
   go_wp2
   go_ret
   refine ⟨a1, c1, ?_, ?_, ?_, hb⟩
   ·rw [<- HG0.out]; rfl
   ·rw [<- HG0.out]; exact hc1
   ·rw [<- HG0.out]; exact HA1.out
  ·have hB0 : 0 < B := Nat.pos_of_ne_zero h0
   have hlB := limbs_pos_iff.2 hB0
   have HD := hid (r1DivMod c1 d1 hc1 hd1 HA1.out HB1.out (lval_limbs A) (lval_limbs B) hrA hrB hB0)
   clear h0
   go_wp2_with fail
   refine HD.out.mono ?_
   rintro e w' ⟨a2, c2, a3, c3, rfl, h3, h4, h5, h6, h7⟩
   have H6 := hid h6
   have HB2 := hid (HB1.out.below h7)
   have hb2 := hb.trans (h7.mono hb.size)
   clear HD h5 h6 h7 HA1 HB1 hb
   go_wp2
   go_roundg (A % B)
   case measure => rw [HGk.out]; exact Nat.mod_lt _ hB0
   case rel =>
    refine ⟨B, A % B, b1, a3, d1, c3, rfl, rfl, rfl, hd1, h4, hrB, Nat.le_trans (mod_len A hB0) hrB, HB2, H6, ?_, hb2⟩
    unfold Hid
    rw [<- HG.out, Nat.gcd_comm A B, Nat.gcd_rec B A, Nat.gcd_comm]
end Go.Proofs.YtoppijdedkdjeaaGreat

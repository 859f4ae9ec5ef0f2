/-
  Contracts of the functions that the statements reach, in the order in which they are built: RefH, RefI, RefJ, RefK, RefL, RefM, RefN, RefO, RefP, RefQ, RefR, RefS, RatG, RefT, RKB.
-/
import Derived.Test.YtfmhedfiklidhaaM13
import Derived.Deep.RegionWith
import Derived.Test.YtfmhedfiklidhaaM7
import Derived.Test.YtfmhedfiklidhaaM4
set_option linter.unusedVariables false
set_option linter.unusedSimpArgs false
set_option linter.constructorNameAsVariable false
set_option linter.deprecated false

/-
  The reference's DivMod of layer 1: by contract.
-/
namespace Go.Proofs.Ytfmhedfiklidhaa
open Go.RowKit

/-- What DivMod leaves where the divisor is not 0. -/
def RetDM (w : World) (x y : Nat) (e : Ending) (w' : World) : Prop := ∃ a c b d, e = .returned (.tuple #[.slice a (limbs (x / y)).length c, .slice b (limbs (x % y)).length d, .int .i64 0]) ∧ (limbs (x / y)).length ≤ c ∧ (limbs (x % y)).length ≤ d ∧ U32s w' a (limbs (x / y)) ∧ U32s w' b (limbs (x % y)) ∧ Below w.heap.size w w'

set_option maxRecDepth 100000 in
set_option maxHeartbeats 1600000 in
theorem r1DivMod_zero {w : World} {a b : Option Addr} {l m : List Nat} {x : Nat} (c d : Nat) (hc : l.length ≤ c) (hd : m.length ≤ d) (h : U32s w a l) (g : U32s w b m) (hx : lval l = x) (hy : lval m = 0) (hr : l.length ≤ 2097152) (hr2 : m.length ≤ 2097152) :
    Calls Try.prog 47 #[.slice a l.length c, .slice b m.length d] w fun e w' => e = .returned (.tuple #[.slice none 0 0, .slice none 0 0, .int .i64 3]) ∧ Below w.heap.size w w' := by
  have HA := Lib.hid (r1Uint c hc h hx (by omega))
  have HB := Lib.hid (fun wv (hu : U32s wv b m) => r1Uint d hd hu hy (by omega))
  have HG := Lib.hid g
  have HO : Hid (uintOK 0 = true) := by unfold Hid uintOK; rw [limbs_zero]; rfl
  rw [limbs_zero, HO.out] at HB
  clear h g hx hy hc hd
  go_enter Try.func47, Try.ntmps47
  go_wp2_with fail
  refine HA.out.mono ?_
  rintro e w1 ⟨rfl, hb1⟩
  have HB2 := HB.out w1 (HG.out.below hb1)
  have HC := Lib.hid HB2
  have HB1 := Lib.hid hb1
  clear HA HB HB2 hb1
  generalize (if (limbs x).length ≤ 2 then (x : Int) else 0) = X at *
  generalize uintOK x = B at *
  go_wp2_with fail
  refine HC.out.mono ?_
  rintro e w2 ⟨rfl, hb2⟩
  have HB2 := Lib.hid (HB1.out.trans (hb2.mono HB1.out.size))
  clear hb2
  go_wp2
  all_goals
    go_ret3
    exact ⟨rfl, HB2.out⟩

set_option maxRecDepth 100000 in
set_option maxHeartbeats 1600000 in
theorem r1DivMod_small {w : World} {a b : Option Addr} {l m : List Nat} {x y : Nat} (c d : Nat) (hc : l.length ≤ c) (hd : m.length ≤ d) (h : U32s w a l) (g : U32s w b m) (hx : lval l = x) (hy : lval m = y) (hr : l.length ≤ 2097152) (hr2 : m.length ≤ 2097152) (hy0 : 0 < y)
    (h1 : (limbs x).length ≤ 2) (h2 : (limbs y).length ≤ 2) :
    Calls Try.prog 47 #[.slice a l.length c, .slice b m.length d] w (RetDM w x y) := by
  have HA := Lib.hid (r1Uint c hc h hx (by omega))
  have HB := Lib.hid (fun wv (hu : U32s wv b m) => r1Uint d hd hu hy (by omega))
  have HG := Lib.hid g
  have HO1 : Hid (uintOK x = true) := decide_eq_true h1
  have HO2 : Hid (uintOK y = true) := decide_eq_true h2
  have HX := Lib.hid (limbs_two h1)
  have HY := Lib.hid (limbs_two h2)
  rw [HO1.out, if_pos h1] at HA
  simp only [HO2.out, if_pos h2] at HB
  have hz1 : ((y : Int) == 0) = false := by rw [beq_eq_false_iff_ne]; omega
  clear h g hx hy hc hd h1 h2
  go_enter Try.func47, Try.ntmps47
  go_wp2_with fail
  refine HA.out.mono ?_
  rintro e w1 ⟨rfl, hb1⟩
  have HB2 := HB.out w1 (HG.out.below hb1)
  have HC := Lib.hid HB2
  have HB1 := Lib.hid hb1
  clear HA HB HB2 hb1
  go_wp2_with fail
  refine HC.out.mono ?_
  rintro e w2 ⟨rfl, hb2⟩
  have HB2 := Lib.hid (HB1.out.trans (hb2.mono HB1.out.size))
  have HYp := Lib.hid hy0
  clear hb2 HC HB1
  have D1 := tdiv_nat' x y
  have D2 := tmod_nat' x y
  have D3 : Hid (x / y < 18446744073709551616) := Nat.lt_of_le_of_lt (Nat.div_le_self _ _) HX.out
  have D4 : Hid (x % y < 18446744073709551616) := Nat.lt_of_le_of_lt (Nat.mod_le _ _) HX.out
  have O1 : Hid (∀ wv, Calls Try.prog 31 #[.int .u64 (IntKind.u64.wrap ((x : Int) / (y : Int)))] wv (RetF wv (x / y))) := fun wv => by
    have h := r1Of (x / y) D3.out wv
    rwa [show ((x / y : Nat) : Int) = IntKind.u64.wrap ((x : Int) / (y : Int)) by rw [IntKind.wrap_u64, ← Int.natCast_ediv]; have := D3.out; generalize x / y = q at *; omega] at h
  have O2 : Hid (∀ wv, Calls Try.prog 31 #[.int .u64 ((x : Int) % (y : Int))] wv (RetF wv (x % y))) := fun wv => by
    have h := r1Of (x % y) D4.out wv
    rwa [Int.natCast_emod] at h
  go_wp2
  go_region_with (go_at_call 31; first | ((with_reducible refine (O1.out _).mono ?_); rintro e w3 ⟨a3, c3, rfl, h3, h4, h5, h6⟩) | ((with_reducible refine (O2.out _).mono ?_); rintro e w3 ⟨b3, d3, rfl, g3, g4, g5, g6⟩))
  all_goals
    go_wp2
    go_ret3
    have k5 := (Below.refl w2.heap.size w2).drew.trans h5
    exact ⟨a3, c3, b3, d3, rfl, h3, g3, h4.below g5, g4, HB2.out.trans ((k5.trans (g5.mono k5.size)).mono HB2.out.size)⟩

theorem U32s.setFar {w : World} {g : Nat} {a : Option Addr} {l : List Nat} (h : U32s w a l) (hf : Far (g + 1) a) (o : Nat) (v : Value) : U32s (w.setCell ⟨g, o, none⟩ v) a l := by
  by_cases hl : l = []
  · rw [hl]; exact U32s.nil _ _
  obtain ⟨b, off, rfl, hb, hc⟩ := h.open hl
  have hne : b ≠ g := by
    have := hf _ rfl
    simp only at this
    omega
  exact ((Only.refl g w).setCell o v).u32s hne h
theorem or_bit {a s : Nat} (ha : a < 4294967296) (hs : s < 32) : bits .or .u32 (a : Int) (2 ^ s % 4294967296) = ((a ||| 2 ^ s : Nat) : Int) := by
  have h1 : 2 ^ s ≤ 2 ^ 31 := Nat.pow_le_pow_right (by omega) (by omega)
  have h2 : ((2 : Int) ^ s % 4294967296) = ((2 ^ s : Nat) : Int) := by
    have : ((2 : Int) ^ s) = ((2 ^ s : Nat) : Int) := by simp
    rw [this]; clear this; generalize 2 ^ s = p at *; omega
  rw [h2, bits_or_u32_nat _ _ ha (by omega)]
theorem and_one_u32 (a : Nat) (ha : a < 4294967296) : bits .and .u32 (a : Int) 1 = ((a % 2 : Nat) : Int) := by
  have h1 : (BitVec.ofInt 32 (a : Int)).toNat = a := by
    rw [BitVec.ofInt_natCast, BitVec.toNat_ofNat]; exact Nat.mod_eq_of_lt (by omega)
  show IntKind.u32.wrap ((BitVec.ofInt 32 (a : Int) &&& BitVec.ofInt 32 (1 : Int)).toNat : Int) = _
  rw [BitVec.toNat_and, h1, show (BitVec.ofInt 32 (1 : Int)).toNat = 1 from rfl, Nat.and_one_is_mod, IntKind.wrap_u32]
  omega
theorem dbl_len {R m b : Nat} (h : (limbs R).length ≤ m) (hb : b < 2) : (limbs (R * 2 + b)).length ≤ m + 1 := by
  apply limbs_len_le
  have h1 := Nat.lt_of_lt_of_le (limbs_len_lt R) (Nat.pow_le_pow_right (show 0 < 4294967296 by omega) h)
  rw [Nat.pow_succ]
  omega
theorem U32s.one (w : World) {b : Nat} (hb : b < 4294967296) (T : Nat) : U32s (w.alloc (.cells #[.int .u32 (b : Int)] T)) (some ⟨w.heap.size, 0, none⟩) [b] := by
  refine ⟨by intro d hd; simp at hd; omega, by simp, .inr ⟨w.heap.size, 0, rfl, by simp, fun j d hj => ?_⟩⟩
  rw [World.cell?_alloc_at _ _ _ _ rfl]
  match j, hj with
  | 0, hj => simp at hj; subst hj; simp

set_option maxRecDepth 100000 in
set_option maxHeartbeats 3200000 in
theorem r1DivMod_long {w : World} {a b : Option Addr} {l m : List Nat} {x y : Nat} (c d : Nat) (hc : l.length ≤ c) (hd : m.length ≤ d) (h : U32s w a l) (g : U32s w b m) (hx : lval l = x) (hy : lval m = y) (hr : l.length ≤ 2097152) (hr2 : m.length ≤ 2097152) (hy0 : 0 < y)
    (h12 : ¬ ((limbs x).length ≤ 2 ∧ (limbs y).length ≤ 2)) :
    Calls Try.prog 47 #[.slice a l.length c, .slice b m.length d] w (RetDM w x y) := by
  have HA := Lib.hid (r1Uint c hc h hx (by omega))
  have HB := Lib.hid (fun wv (hu : U32s wv b m) => r1Uint d hd hu hy (by omega))
  have HBt := Lib.hid (fun wv (hu : U32s wv a l) => r1Bits c hc hu hx (by omega))
  have HU := Lib.hid h
  have HG := Lib.hid g
  have HX := Lib.hid hx
  have HY := Lib.hid hy
  have hlx : (limbs x).length ≤ l.length := by rw [← hx]; exact limbs_len_of_lval h.lim
  obtain ⟨i0, hi, hz3, hz4, hz5⟩ := info_parts Try.infoU32
  have hfl : (uintOK y && (if (limbs y).length ≤ 2 then (y : Int) else 0) == 0) = false ∧ (uintOK x && uintOK y) = false := by
    unfold uintOK
    by_cases h1 : (limbs y).length ≤ 2
    · have h2 : ¬ (limbs x).length ≤ 2 := fun h => h12 ⟨h, h1⟩
      simp [h1, h2]; omega
    · simp [h1]
  obtain ⟨f1, f2⟩ := hfl
  clear h g hx hy hc hd h12
  go_enter Try.func47, Try.ntmps47
  go_wp2_with fail
  refine HA.out.mono ?_
  rintro e w1 ⟨rfl, hb1⟩
  have HB2 := HB.out w1 (HG.out.below hb1)
  have HC := Lib.hid HB2
  have HB1 := Lib.hid hb1
  clear HA HB HB2 hb1
  generalize (if (limbs x).length ≤ 2 then (x : Int) else 0) = X at *
  generalize (if (limbs y).length ≤ 2 then (y : Int) else 0) = Y at *
  generalize uintOK x = P at *
  generalize uintOK y = Q at *
  go_wp2_with fail
  refine HC.out.mono ?_
  rintro e w2 ⟨rfl, hb2⟩
  have HB2 := Lib.hid (HB1.out.trans (hb2.mono HB1.out.size))
  have HYp := Lib.hid hy0
  clear hb2 HC HB1
  have hPQ : (Q = false ∧ P = false) ∨ (Q = false ∧ P = true) ∨ (Q = true ∧ P = false ∧ (Y == 0) = false) := by
    cases Q <;> cases P <;> simp_all
  clear f1 f2
  rcases hPQ with ⟨rfl, rfl⟩ | ⟨rfl, rfl⟩ | ⟨rfl, rfl, hY0⟩
  all_goals
    go_wp2_with (at_make; refine wpList_make_full _ rfl _ _ 22 rfl w2.heap.size 83 i0 (.int .u32 0) 1 Try.underlying22 hi hz3 hz4 _ _ _ _ l.length rfl rfl (by omega) (by omega) ?b2 ?b3 (Nat.le_refl _) ?_)
    case b2 => rw [hz5]; omega
    case b3 => unfold maxLen; omega
    intro w3 hown hgrow
    have HB0 : Hid (Blk w3 w2.heap.size l.length (limbOf 0) 83) := by
      refine Blk.of_own (base := w2.heap.size) ?_
      have e : (madeCells #[Value.int IntKind.u32 0] l.length).toList = (List.range l.length).map fun i => Value.int .u32 ((limbOf 0 i : Nat) : Int) := by
        simp [toList_madeCells_one, List.map_const', limbOf_zero]
      rw [← e]; exact hown
    have hb3 : Below w2.heap.size w2 w3 := (Below.refl _ _).grown hgrow (Nat.le_refl _) (fun k h => by cases h)
    clear hown hgrow
    try clear hY0
    go_wp2_with fail
    refine (HBt.out _ (HU.out.below ((HB2.out.trans (hb3.mono HB2.out.size)).alloc (Nat.le_trans HB2.out.size hb3.size) _))).mono ?_
    rintro e w4 ⟨n, rfl, hn1, hn2, hb4⟩
    have HN1 := Lib.hid hn1.1
    have hb34 := ((Below.refl _ w3).alloc (Nat.le_refl _) _).trans (hb4.mono (by simp))
    have HBk : Hid (Blk w4 w2.heap.size l.length (limbOf (quoAt x y n)) 83) := by
      rw [(at_top HN1.out).2]
      exact HB0.out.below hb34
    have HB4 := Lib.hid (hb3.trans (hb34.mono hb3.size))
    have hR0 := (at_top (B := y) HN1.out).1
    have HF0 : Hid (Far (w2.heap.size + 1) (some ⟨w3.heap.size, 0, none⟩)) := fun p e => by cases e; exact HB0.out.lt
    clear HB0 hb3 hb4 hb34 hn1 HBt
    go_wp2
    go_loopw [12, 13] (fun r i wr => ∃ (k : Nat) (I : Int) (a1 : Option Addr) (c1 : Nat), k ≤ n ∧ I + 1 = (k : Int) ∧ i = .int .i64 I ∧ r = .slice a1 (limbs (remAt x y k)).length c1 ∧ (limbs (remAt x y k)).length ≤ c1 ∧ Hid (U32s wr a1 (limbs (remAt x y k))) ∧ Hid (Far (w2.heap.size + 1) a1) ∧ Hid (Blk wr w2.heap.size l.length (limbOf (quoAt x y k)) 83) ∧ Hid (Below w2.heap.size w2 wr)) (fun _ i _ => (intOf i + 1).toNat)
    case atStart => exact ⟨n, _, _, 0, Nat.le_refl _, by omega, rfl, by rw [hR0, limbs_zero]; rfl, by rw [hR0, limbs_zero]; exact Nat.le_refl _, by unfold Hid; rw [hR0, limbs_zero]; exact U32s.nil _ _, HF0, HBk, HB4⟩
    case round =>
      clear hR0 HF0 HBk HB4
      obtain ⟨k, I, a1, c1, hk, hI, rfl, rfl, hc1, HR, HF, HBk, HBw⟩ := hrel
      cases k with
      | zero =>
        obtain rfl : I = -1 := by omega
        have hxl : x < 4294967296 ^ l.length := by rw [← HX.out]; exact lval_lt HU.out.lim
        have hv : lval ((List.range l.length).map (limbOf (quoAt x y 0))) = x / y := by
          rw [lval_map, valN_limbOf _ _ (Nat.lt_of_le_of_lt (quoAt_le _ _ _) hxl), (at_end x y).2]
        have hU := HBk.out.u32s (fun i _ => limbOf_lt _ _) (by omega)
        have hM := r1Make l.length (by simp) hU (by simp; omega)
        rw [hv] at hM
        simp only [List.length_map, List.length_range] at hM
        have HM := Lib.hid hM
        rw [(at_end x y).1] at hc1 HR ⊢
        clear hM hU hv hxl
        go_wp2_with fail
        refine HM.out.mono ?_
        rintro e w5 ⟨a2, c2, rfl, h2, g2, hb5, hf5⟩
        have g3 := Lib.hid (HR.out.below hb5)
        have g4 := Lib.hid g2
        have HB5 := Lib.hid (HB2.out.trans ((HBw.out.trans (hb5.mono HBw.out.size)).mono HB2.out.size))
        clear HM hb5 hf5 g2
        go_wp2
        go_ret3
        exact ⟨a2, c2, a1, c1, rfl, h2, hc1, g4.out, g3.out, HB5.out⟩
      | succ q =>
        obtain rfl : I = (q : Int) := by omega
        have hRy : remAt x y (q + 1) < y := Nat.mod_lt _ HYp.out
        have hlR : (limbs (remAt x y (q + 1))).length ≤ m.length := Nat.le_trans (limbs_len_mono (Nat.le_of_lt hRy)) (by rw [← HY.out]; exact limbs_len_of_lval HG.out.lim)
        have hS := r1shl c1 0 1 1 (by omega) (by omega) (by omega) HR.out (lval_limbs _) (by omega)
        rw [Nat.pow_one] at hS
        have HS := Lib.hid hS
        clear hS
        obtain ⟨p1, o1, rfl, hp1, q1⟩ := (HU.out.below (HB2.out.trans (HBw.out.mono HB2.out.size))).pick (show q / 32 < l.length by omega)
        have hbit : bits .and .u32 ((dig l (q / 32) : Int) / 2 ^ (q % 32)) 1 = ((bitAt x q : Nat) : Int) := by
          rw [← HX.out, bitAt_dig HU.out.lim, show ((dig l (q / 32) : Int) / 2 ^ (q % 32)) = ((dig l (q / 32) / 2 ^ (q % 32) : Nat) : Int) by simp, and_one_u32 _ (Nat.lt_of_le_of_lt (Nat.div_le_self _ _) (dig_lt HU.out.lim _))]
        have hdl := dig_lt HU.out.lim (q / 32)
        have hB2 := bitAt_lt x q
        have HGe := Lib.hid (fun h => step_ge (A := x) (B := y) (i := q) HYp.out h)
        have HLt := Lib.hid (fun h => step_lt (A := x) (B := y) (i := q) h)
        generalize hRR : remAt x y (q + 1) = R at *
        have HRR := Lib.hid hRR
        generalize bitAt x q = B at *
        generalize dig l (q / 32) = dg at *
        clear hRR
        go_wp2_with fail
        refine HS.out.mono ?_
        rintro e w5 ⟨a2, c2, rfl, h2, g2, hb5, hf5⟩
        have q2 : w5.cell? ⟨p1, o1 + q / 32, none⟩ = _ := (hb5.cell hp1).trans q1
        have g3 := Lib.hid g2
        have HB5 := Lib.hid hb5
        have HF5 := Lib.hid hf5
        clear HS hb5 hf5 g2 q1
        have hl2 : (limbs (R * 2)).length ≤ m.length + 1 := dbl_len (b := 0) hlR (by omega)
        have hl3 := dbl_len hlR hB2
        have hA := r1Add (w := w5.alloc (.cells #[.int .u32 (B : Int)] 83)) c2 1 (g3.out.below ((Below.refl _ _).alloc (Nat.le_refl _) _)) (U32s.one w5 (by omega) _) (lval_limbs _) (lval_one B) (by omega) (by simp)
        have HA := Lib.hid hA
        clear hA
        go_wp2_with fail
        refine HA.out.mono ?_
        rintro e w6 ⟨a3, c3, rfl, h6, g6, hb6, hf6⟩
        have G6 := Lib.hid g6
        have hb56 := ((Below.refl _ w5).alloc (Nat.le_refl _) _).trans (hb6.mono (by simp))
        have hb26 := HBw.out.trans ((HB5.out.trans (hb56.mono HB5.out.size)).mono HBw.out.size)
        have HB26 := Lib.hid hb26
        have HC6 := Lib.hid (r1Cmp c3 d g6 (HG.out.below (HB2.out.trans (hb26.mono HB2.out.size))))
        rw [lval_limbs, HY.out] at HC6
        have HF6 := Lib.hid (hf6.mono (show w2.heap.size + 1 ≤ _ from Nat.le_trans (Nat.le_trans HBk.out.lt HB5.out.size) (by simp)))
        have HBk6 := Lib.hid (HBk.out.below (HB5.out.trans (hb56.mono HB5.out.size)))
        clear HA hb6 hf6 g6 hb56 hb26 g3 HR HBk HBw HB5 HF5 HF hbit q2
        go_wp2_with fail
        refine HC6.out.mono ?_
        rintro e w7 ⟨rfl, rfl⟩
        have HGe2 : Hid (y ≤ R * 2 + B → remAt x y q = R * 2 + B - y ∧ quoAt x y q = quoAt x y (q + 1) ||| 2 ^ q) := fun h => by
          have := HGe.out (by omega)
          rwa [Nat.mul_comm 2 R] at this
        have HLt2 : Hid (R * 2 + B < y → remAt x y q = R * 2 + B ∧ quoAt x y q = quoAt x y (q + 1)) := fun h => by
          have := HLt.out (by omega)
          rwa [Nat.mul_comm 2 R] at this
        clear HGe HLt HC6 hl2
        generalize R * 2 + B = N at *
        by_cases hge : y ≤ N
        · have hcm : decide (0 ≤ cmpN N y) = true := by
            apply decide_eq_true
            unfold cmpN
            rw [if_neg (by omega)]
            split <;> omega
          have HS := Lib.hid (r1Sub c3 d G6.out (HG.out.below (HB2.out.trans (HB26.out.mono HB2.out.size))) (lval_limbs N) HY.out (by omega) (by omega))
          go_wp2_with fail
          refine HS.out.mono ?_
          rintro e w8 (⟨hlt, _⟩ | ⟨_, hb8, a4, c4, rfl, h8, g8, hf8⟩)
          · omega
          have HB8 := Lib.hid (HB26.out.trans (hb8.mono HB26.out.size))
          have hbk8 := HBk6.out.below hb8
          have k1 := hbk8.cell (x := q / 32) (by omega)
          have k2 := hbk8.free (q / 32)
          have hlo := limbOf_lt (quoAt x y (q + 1)) (q / 32)
          have HBk8 := Lib.hid hbk8
          have HF8 := Lib.hid (hf8.mono (show w2.heap.size + 1 ≤ _ from Nat.le_trans HBk6.out.lt (Nat.le_refl _)))
          have G8 := Lib.hid g8
          clear HS hb8 hbk8 g8 hf8 HF6 HBk6 HB26 G6 hcm
          go_wp2
          go_region
          go_wp2
          go_roundw
          case rel =>
            have e := HGe2.out hge
            refine ⟨q, (q : Int) - 1, a4, c4, by omega, by omega, rfl, by rw [e.1], by rw [e.1]; exact h8, by rw [e.1]; exact (G8.out.setFar HF8.out _ _).drewN 1, HF8, ?_, ((HB8.out.setCell (Nat.le_refl _) _).drew)⟩
            unfold Hid
            rw [e.2, or_bit hlo (Nat.mod_lt _ (by omega))]
            exact ((HBk8.out.set (q / 32) _).congr (fun i _ => by rw [limbOf_or]; by_cases hi : i = q / 32 <;> simp [hi])).drewN 1
          case measure => simp [intOf]
        · have hcm : decide (0 ≤ cmpN N y) = false := by
            apply decide_eq_false
            unfold cmpN
            rw [if_pos (by omega)]
            omega
          go_wp2
          go_roundw
          case rel =>
            have e := HLt2.out (by omega)
            refine ⟨q, (q : Int) - 1, a3, c3, by omega, by omega, rfl, by rw [e.1], by rw [e.1]; exact h6, by rw [e.1]; exact G6, HF6, by rw [e.2]; exact HBk6, HB26⟩
          case measure => simp [intOf]

end Go.Proofs.Ytfmhedfiklidhaa

/-
  The reference's DivMod and Gcd of layer 1: by contract.
-/
namespace Go.Proofs.Ytfmhedfiklidhaa
open Go.RowKit

theorem r1DivMod {w : World} {a b : Option Addr} {l m : List Nat} {x y : Nat} (c d : Nat) (hc : l.length ≤ c) (hd : m.length ≤ d) (h : U32s w a l) (g : U32s w b m) (hx : lval l = x) (hy : lval m = y) (hr : l.length ≤ 2097152) (hr2 : m.length ≤ 2097152) (hy0 : 0 < y) :
    Calls Try.prog 47 #[.slice a l.length c, .slice b m.length d] w (RetDM w x y) := by
  by_cases h12 : (limbs x).length ≤ 2 ∧ (limbs y).length ≤ 2
  · exact r1DivMod_small c d hc hd h g hx hy hr hr2 hy0 h12.1 h12.2
  · exact r1DivMod_long c d hc hd h g hx hy hr hr2 hy0 h12

set_option maxRecDepth 100000 in
set_option maxHeartbeats 1600000 in
theorem r1Gcd {w : World} {a b : Option Addr} {l m : List Nat} {x y : Nat} (c d : Nat) (hc : l.length ≤ c) (hd : m.length ≤ d) (h : U32s w a l) (g : U32s w b m) (hx : lval l = x) (hy : lval m = y) (hr : l.length ≤ 2097152) (hr2 : m.length ≤ 2097152) :
    Calls Try.prog 87 #[.slice a l.length c, .slice b m.length d] w (RetN w (Nat.gcd x y)) := by
  have hA := r1Make c hc h (by omega)
  rw [hx] at hA
  have HA := Lib.hid hA
  have HB := Lib.hid (fun wv (hu : U32s wv b m) => r1Make d hd hu (by omega))
  rw [hy] at HB
  have HG := Lib.hid g
  have hle : (limbs x).length ≤ l.length := by rw [← hx]; exact limbs_len_of_lval h.lim
  have hle2 : (limbs y).length ≤ m.length := by rw [← hy]; exact limbs_len_of_lval g.lim
  clear h g hx hy hc hd hA
  go_enter Try.func87, Try.ntmps87
  go_wp2_with fail
  refine HA.out.mono ?_
  rintro e w1 ⟨a1, c1, rfl, hc1, ha1, hb1, _⟩
  have HB2 := Lib.hid (HB.out w1 (HG.out.below hb1))
  have HA1 := Lib.hid ha1
  have HBe := Lib.hid hb1
  clear HA HB ha1 hb1
  go_wp2_with fail
  refine HB2.out.mono ?_
  rintro e w2 ⟨b1, d1, rfl, hd1, hb2, hbb2, _⟩
  have HA2 := Lib.hid (HA1.out.below hbb2)
  have HB3 := Lib.hid hb2
  have HBw := Lib.hid (HBe.out.trans (hbb2.mono HBe.out.size))
  clear HB2 hb2 hbb2 HA1 HBe
  go_wp2
  go_loopg [0, 1] y (fun k p q wr => ∃ (A B : Nat) (a1 b1 : Option Addr) (c1 d1 : Nat), k = B ∧ p = .slice a1 (limbs A).length c1 ∧ q = .slice b1 (limbs B).length d1 ∧ (limbs A).length ≤ c1 ∧ (limbs B).length ≤ d1 ∧ (limbs A).length ≤ 2097152 ∧ (limbs B).length ≤ 2097152 ∧ Hid (U32s wr a1 (limbs A)) ∧ Hid (U32s wr b1 (limbs B)) ∧ Hid (Nat.gcd A B = Nat.gcd x y) ∧ Below w.heap.size w wr)
  case atStart => exact ⟨x, y, a1, b1, c1, d1, rfl, rfl, rfl, hc1, hd1, by omega, by omega, HA2, HB3, rfl, HBw.out⟩
  case round =>
    clear HA2 HB3 hc1 hd1 hle hle2 hr hr2 HBw
    obtain ⟨A, B, a1, b1, c1, d1, hgk, rfl, rfl, hc1, hd1, hrA, hrB, HA1, HB1, HG, hb⟩ := hrel
    have HGk := Lib.hid hgk
    clear hgk
    by_cases h0 : B = 0
    · subst h0
      have HG0 : Hid (A = Nat.gcd x y) := by have := HG.out; rw [Nat.gcd_zero_right] at this; exact this
      rw [limbs_zero] at *
      go_wp2
      go_ret
      refine ⟨a1, c1, ?_, ?_, ?_, hb⟩
      · rw [← HG0.out]; rfl
      · rw [← HG0.out]; exact hc1
      · rw [← HG0.out]; exact HA1.out
    · have hB0 : 0 < B := Nat.pos_of_ne_zero h0
      have hlB := limbs_pos_iff.2 hB0
      have HD := Lib.hid (r1DivMod c1 d1 hc1 hd1 HA1.out HB1.out (lval_limbs A) (lval_limbs B) hrA hrB hB0)
      clear h0
      go_wp2_with fail
      refine HD.out.mono ?_
      rintro e w' ⟨a2, c2, a3, c3, rfl, h3, h4, h5, h6, h7⟩
      have H6 := Lib.hid h6
      have HB2 := Lib.hid (HB1.out.below h7)
      have hb2 := hb.trans (h7.mono hb.size)
      clear HD h5 h6 h7 HA1 HB1 hb
      go_wp2
      go_roundg (A % B)
      case measure => rw [HGk.out]; exact Nat.mod_lt _ hB0
      case rel =>
        refine ⟨B, A % B, b1, a3, d1, c3, rfl, rfl, rfl, hd1, h4, hrB, Nat.le_trans (mod_len A hB0) hrB, HB2, H6, ?_, hb2⟩
        unfold Hid
        rw [← HG.out, Nat.gcd_comm A B, Nat.gcd_rec B A, Nat.gcd_comm]

end Go.Proofs.Ytfmhedfiklidhaa

/-
  The reference's Make, Of, Sign of layer 2: by contract.
-/
namespace Go.Proofs.Ytfmhedfiklidhaa
open Go.RowKit

/-- A canonical integer as a value. -/
structure IntC (w : World) (v : Value) (z : Int) : Prop where
  ex : ∃ (a : Option Addr) (c : Nat), v = .agg #[.bool (decide (z < 0)), .slice a (limbs z.natAbs).length c] ∧ (limbs z.natAbs).length ≤ c ∧ U32s w a (limbs z.natAbs)
theorem IntC.below {w w' : World} {v : Value} {z : Int} (h : IntC w v z) (hb : Below w.heap.size w w') : IntC w' v z := by
  obtain ⟨a, c, h1, h2, h3⟩ := h.ex
  exact ⟨a, c, h1, h2, h3.below hb⟩
theorem IntC.v {w : World} {v : Value} {z : Int} (h : IntC w v z) : IntV w v (decide (z < 0)) z.natAbs (limbs z.natAbs).length := by
  obtain ⟨a, c, h1, h2, h3⟩ := h.ex
  exact ⟨a, c, limbs z.natAbs, h1, h2, h3, lval_limbs _, Nat.le_refl _⟩
def RetZ (w : World) (z : Int) (e : Ending) (w' : World) : Prop := ∃ v, e = .returned v ∧ IntC w' v z ∧ Below w.heap.size w w'
theorem sgn_neg_iff (neg : Bool) (n : Nat) : decide (sgn neg n < 0) = (neg && decide (n ≠ 0)) := by
  cases neg
  · simp [sgn]
  · by_cases h : n = 0
    · simp [sgn, h]
    · simp [sgn, h]; omega
theorem IntC.mk' {w : World} {a : Option Addr} {c n : Nat} {neg : Bool} (h1 : (limbs n).length ≤ c) (h2 : U32s w a (limbs n)) : IntC w (.agg #[.bool (neg && decide (n ≠ 0)), .slice a (limbs n).length c]) (sgn neg n) :=
  ⟨a, c, by rw [sgn_neg_iff, sgn_natAbs], by rw [sgn_natAbs]; exact h1, by rw [sgn_natAbs]; exact h2⟩

set_option maxRecDepth 100000 in
set_option maxHeartbeats 1600000 in
theorem r2Make {w : World} {a : Option Addr} {l : List Nat} (neg : Bool) {n : Nat} (c : Nat) (hc : l.length ≤ c) (h : U32s w a l) (hx : lval l = n) (hr : l.length ≤ 17592186044416) :
    Calls Try.prog 36 #[.bool neg, .slice a l.length c] w (RetZ w (sgn neg n)) := by
  have hB0 : Below w.heap.size w (w.alloc (.cells #[.bool false, .slice none 0 0] 62)) := (Below.refl _ _).alloc (Nat.le_refl _) _
  have hM := r1Make c hc (h.below hB0) (by omega)
  rw [hx] at hM
  have HM := Lib.hid hM
  have hR := Box2.alloc w (.bool false) (.slice none 0 0) 62
  have hN := NoInt.alloc w #[.bool false, .slice none 0 0] 62 (by simp)
  have HB := Lib.hid hB0
  have HR := Lib.hid hR
  have HN := Lib.hid hN
  clear h hx hB0 hR hN hM
  go_enter Try.func36, Try.ntmps36
  go_wp2_with fail
  refine HM.out.mono ?_
  rintro e w1 ⟨a1, c1, rfl, h1, h2, hb, _⟩
  obtain ⟨r0, r1, rf, rlt⟩ := HR.out.below hb
  have HN1 := Lib.hid (HN.out.below hb (by simp))
  have HB1 := Lib.hid (HB.out.trans (hb.mono HB.out.size))
  have H2 := Lib.hid h2
  clear HM HR HN HB h2 hb
  by_cases hn : n = 0
  · subst hn
    have hll : (limbs 0).length = 0 := by rw [limbs_zero]; rfl
    have hs : sgn neg 0 = 0 := by cases neg <;> rfl
    rw [hs]
    rw [limbs_zero] at *
    clear hs hll
    have HC : Hid (∀ w', IntC w' (.agg #[.bool false, .slice a1 0 c1]) 0) := fun w' => ⟨a1, c1, by simp [limbs_zero], by simp [limbs_zero], by simp [limbs_zero]; exact U32s.nil _ _⟩
    cases neg <;>
    · go_wp2
      have hbf := (HB1.out.setCell (p := ⟨w.heap.size, 0, none⟩) (Nat.le_refl _) (.bool false)).setCell (p := ⟨w.heap.size, 1, none⟩) (Nat.le_refl _) (.slice a1 0 c1)
      exact bodyPost_ret (v := .agg #[.bool false, .slice a1 0 c1]) (by simp [results, Try.results36, go_sem, r0, r1]) rfl ⟨_, rfl, HC.out _, hbf⟩
  · have hp := limbs_pos_iff.2 (Nat.pos_of_ne_zero hn)
    have HDn := Lib.hid (decide_eq_true hn)
    have hd : decide (0 < (limbs n).length) = true := decide_eq_true hp
    have HC : Hid (∀ w' : World, U32s w' a1 (limbs n) → IntC w' (.agg #[.bool neg, .slice a1 (limbs n).length c1]) (sgn neg n)) := fun w' h => by
      have := IntC.mk' (neg := neg) h1 h
      rwa [HDn.out, Bool.and_true] at this
    clear hn
    cases neg <;>
    · go_wp2
      have hU : ∀ B : Bool, U32s ((w1.setCell ⟨w.heap.size, 0, none⟩ (.bool B)).setCell ⟨w.heap.size, 1, none⟩ (.slice a1 (limbs n).length c1)) a1 (limbs n) := fun B => (H2.out.setCell HN1.out _ _).setCell (HN1.out.setCell _ _ (by simp)) _ _
      have hbf := fun B : Bool => (HB1.out.setCell (p := ⟨w.heap.size, 0, none⟩) (Nat.le_refl _) (.bool B)).setCell (p := ⟨w.heap.size, 1, none⟩) (Nat.le_refl _) (.slice a1 (limbs n).length c1)
      first
        | exact bodyPost_ret (v := .agg #[.bool false, .slice a1 (limbs n).length c1]) (by simp [results, Try.results36, go_sem, r0, r1]) rfl ⟨_, rfl, HC.out _ (hU _), hbf _⟩
        | exact bodyPost_ret (v := .agg #[.bool true, .slice a1 (limbs n).length c1]) (by simp [results, Try.results36, go_sem, r0, r1]) rfl ⟨_, rfl, HC.out _ (hU _), hbf _⟩

end Go.Proofs.Ytfmhedfiklidhaa

/-
  The reference's Of, Sign, Int of layer 2: by contract.
-/
namespace Go.Proofs.Ytfmhedfiklidhaa
open Go.RowKit

theorem neg_u64 {x : Int} (h1 : -9223372036854775808 ≤ x) (h2 : x < 0) : IntKind.u64.wrap (-IntKind.u64.wrap x) = ((x.natAbs : Nat) : Int) := by
  rw [IntKind.wrap_u64, IntKind.wrap_u64]; omega
theorem limbs_len64 {n : Nat} (h : n < 18446744073709551616) : (limbs n).length ≤ 2 := limbs_len_le (Nat.lt_of_lt_of_le h (by decide))

set_option maxRecDepth 100000 in
set_option maxHeartbeats 1600000 in
theorem r2Of (w : World) (x : Int) (h1 : -9223372036854775808 ≤ x) (h2 : x ≤ 9223372036854775807) :
    Calls Try.prog 52 #[.int .i64 x] w (RetZ w x) := by
  have hR := Box2.alloc w (.bool false) (.slice none 0 0) 62
  have hN := NoInt.alloc w #[.bool false, .slice none 0 0] 62 (by simp)
  have HR := Lib.hid hR
  have HN := Lib.hid hN
  clear hR hN
  by_cases hx : x < 0
  · have hO := fun wv => r1Of x.natAbs (by omega) wv
    rw [← neg_u64 h1 hx] at hO
    have HO := Lib.hid hO
    have HX : Hid (sgn true x.natAbs = x) := by unfold Hid sgn; simp; omega
    have hlen := limbs_len64 (n := x.natAbs) (by omega)
    clear hO
    go_enter Try.func52, Try.ntmps52
    go_wp2_with fail
    refine (HO.out _).mono ?_
    rintro e w1 ⟨a1, c1, rfl, g1, g2, g3, _⟩
    have hM := r2Make true c1 g1 g2 (lval_limbs _) (by omega)
    rw [HX.out] at hM
    have HM := Lib.hid hM
    have HB := Lib.hid (((Below.refl _ w).alloc (Nat.le_refl _) (.cells #[.bool false, .slice none 0 0] 62)).trans (g3.mono (by simp)))
    have HR1 := Lib.hid (HR.out.below g3)
    have HN1 := Lib.hid (HN.out.below g3 (by simp))
    clear HO hM g2 g3 HR HN
    go_wp2_with fail
    refine HM.out.mono ?_
    rintro e w2 ⟨v2, rfl, ⟨a2, c2, rfl, k1, k2⟩, hb2⟩
    obtain ⟨r0, r1, rf, rlt⟩ := HR1.out.below hb2
    have HN2 := Lib.hid (HN1.out.below hb2 HR1.out.lt)
    have HB2 := Lib.hid (HB.out.trans (hb2.mono HB.out.size))
    have K2 := Lib.hid k2
    clear HM k2 hb2 HR1 HN1 HB
    generalize hB : decide (x < 0) = B at *
    have HBB := Lib.hid hB
    generalize hL : limbs x.natAbs = L at *
    have HLL := Lib.hid hL
    clear hB hL HX
    go_wp2
    have hU : U32s ((w2.setCell ⟨w.heap.size, 0, none⟩ (.bool B)).setCell ⟨w.heap.size, 1, none⟩ (.slice a2 L.length c2)) a2 L := (K2.out.setCell HN2.out _ _).setCell (HN2.out.setCell _ _ (by simp)) _ _
    have hbf := (HB2.out.setCell (p := ⟨w.heap.size, 0, none⟩) (Nat.le_refl _) (.bool B)).setCell (p := ⟨w.heap.size, 1, none⟩) (Nat.le_refl _) (.slice a2 L.length c2)
    exact bodyPost_ret (v := .agg #[.bool B, .slice a2 L.length c2]) (by simp [results, Try.results52, go_sem, r0, r1]) rfl ⟨_, rfl, ⟨a2, c2, by rw [HBB.out, HLL.out], by rw [HLL.out]; exact k1, by rw [HLL.out]; exact hU⟩, hbf⟩
  · obtain ⟨n, rfl⟩ : ∃ n : Nat, x = (n : Int) := ⟨x.toNat, by omega⟩
    have HO := Lib.hid (fun wv => r1Of n (by omega) wv)
    have HX : Hid (sgn false n = (n : Int)) := rfl
    have hlen := limbs_len64 (n := n) (by omega)
    go_enter Try.func52, Try.ntmps52
    go_wp2_with fail
    refine (HO.out _).mono ?_
    rintro e w1 ⟨a1, c1, rfl, g1, g2, g3, _⟩
    have hM := r2Make false c1 g1 g2 (lval_limbs _) (by omega)
    rw [HX.out] at hM
    have HM := Lib.hid hM
    have HB := Lib.hid (((Below.refl _ w).alloc (Nat.le_refl _) (.cells #[.bool false, .slice none 0 0] 62)).trans (g3.mono (by simp)))
    have HR1 := Lib.hid (HR.out.below g3)
    have HN1 := Lib.hid (HN.out.below g3 (by simp))
    clear HO hM g2 g3 HR HN
    go_wp2_with fail
    refine HM.out.mono ?_
    rintro e w2 ⟨v2, rfl, ⟨a2, c2, rfl, k1, k2⟩, hb2⟩
    obtain ⟨r0, r1, rf, rlt⟩ := HR1.out.below hb2
    have HN2 := Lib.hid (HN1.out.below hb2 HR1.out.lt)
    have HB2 := Lib.hid (HB.out.trans (hb2.mono HB.out.size))
    have K2 := Lib.hid k2
    clear HM k2 hb2 HR1 HN1 HB
    generalize hB : decide ((n : Int) < 0) = B at *
    have HBB := Lib.hid hB
    generalize hL : limbs (n : Int).natAbs = L at *
    have HLL := Lib.hid hL
    clear hB hL HX
    go_wp2
    have hU : U32s ((w2.setCell ⟨w.heap.size, 0, none⟩ (.bool B)).setCell ⟨w.heap.size, 1, none⟩ (.slice a2 L.length c2)) a2 L := (K2.out.setCell HN2.out _ _).setCell (HN2.out.setCell _ _ (by simp)) _ _
    have hbf := (HB2.out.setCell (p := ⟨w.heap.size, 0, none⟩) (Nat.le_refl _) (.bool B)).setCell (p := ⟨w.heap.size, 1, none⟩) (Nat.le_refl _) (.slice a2 L.length c2)
    exact bodyPost_ret (v := .agg #[.bool B, .slice a2 L.length c2]) (by simp [results, Try.results52, go_sem, r0, r1]) rfl ⟨_, rfl, ⟨a2, c2, by rw [HBB.out, HLL.out], by rw [HLL.out]; exact k1, by rw [HLL.out]; exact hU⟩, hbf⟩

set_option maxRecDepth 100000 in
set_option maxHeartbeats 1600000 in
theorem r2Sign {w : World} {v : Value} {neg : Bool} {n k : Nat} (h : IntV w v neg n k) (hr : k ≤ 17592186044416) :
    Calls Try.prog 65 #[v] w fun e w' => e = .returned (.int .i64 (signZ neg n)) ∧ Below w.heap.size w w' := by
  obtain ⟨a, c, l, rfl, h1, h2, h3, h4⟩ := h.ex
  have hB0 : Below w.heap.size w (w.alloc (.cells #[.bool neg, .slice a l.length c] 62)) := (Below.refl _ _).alloc (Nat.le_refl _) _
  have HM := Lib.hid (r2Make neg c h1 (h2.below hB0) h3 (by omega))
  have HB := Lib.hid hB0
  have hR := Box2.alloc w (.bool neg) (.slice a l.length c) 62
  have HR := Lib.hid hR
  have hl := h2.len
  clear h h2 hB0 hR h3
  go_enter Try.func65, Try.ntmps65
  go_wp2_with fail
  refine HM.out.mono ?_
  rintro e w1 ⟨v1, rfl, ⟨a1, c1, rfl, g1, g2⟩, hb⟩
  obtain ⟨r0, r1, rf, rlt⟩ := HR.out.below hb
  have f0 := rf 0
  have f1 := rf 1
  have HB1 := Lib.hid (HB.out.trans (hb.mono HB.out.size))
  rw [sgn_natAbs, sgn_neg_iff]
  clear HM HR HB hb g2 rf
  by_cases hn : n = 0
  · subst hn
    have HS : Hid (signZ neg 0 = 0) := rfl
    rw [limbs_zero] at *
    go_wp2
    go_ret
    exact ⟨ret_int HS.out.symm, (HB1.out.setCell (Nat.le_refl _) _).setCell (Nat.le_refl _) _⟩
  · have hp := limbs_pos_iff.2 (Nat.pos_of_ne_zero hn)
    have HS : Hid (signZ neg n = if neg then -1 else 1) := by unfold Hid signZ; rw [if_neg hn]
    have hz : (((limbs n).length : Int) == 0) = false := by rw [beq_eq_false_iff_ne]; omega
    have hn1 := decide_eq_true hn
    rw [sgn_natAbs] at g1
    cases neg <;>
    · go_wp2
      go_ret
      exact ⟨ret_int (by rw [HS.out]; rfl), (HB1.out.setCell (Nat.le_refl _) _).setCell (Nat.le_refl _) _⟩

end Go.Proofs.Ytfmhedfiklidhaa

/-
  The reference's one and quotient of layer 3: by contract.
-/
namespace Go.Proofs.Ytfmhedfiklidhaa
open Go.RowKit

set_option maxHeartbeats 800000 in
theorem r3one {w : World} {a : Option Addr} {l : List Nat} (c : Nat) (hc : l.length ≤ c) (h : U32s w a l) (hr : l.length ≤ 17592186044416) : Calls Try.prog 49 #[.slice a l.length c] w (RetU w (underN l) (l.length + 1)) := by
  have hM := Lib.hid (r1Make c hc h (by omega))
  have hle := limbs_len_of_lval h.lim
  have hl := h.len
  clear h
  go_enter Try.func49, Try.ntmps49
  go_wp2_with fail
  refine hM.out.mono ?_
  rintro e w1 ⟨a1, c1, rfl, h1, h2, h3, _⟩
  have H2 := Lib.hid h2
  have H3 := Lib.hid h3
  clear hM h2 h3
  by_cases hn : lval l = 0
  · have HU : Hid (underN l = 1) := if_pos hn
    rw [hn, limbs_zero] at *
    clear hn
    go_wp2
    go_ret
    exact ⟨_, 1, [1], rfl, Nat.le_refl _, U32s.one w1 (b := 1) (by omega) _, by rw [HU.out]; rfl, by simp, H3.out.alloc H3.out.size _⟩
  · have HU : Hid (underN l = lval l) := if_neg hn
    have hp := limbs_pos_iff.2 (Nat.pos_of_ne_zero hn)
    have hz : (((limbs (lval l)).length : Int) == 0) = false := by rw [beq_eq_false_iff_ne]; omega
    clear hn
    go_wp2
    go_ret
    exact ⟨a1, c1, limbs (lval l), rfl, h1, H2.out, by rw [HU.out, lval_limbs], by omega, H3.out⟩

theorem RatV.store {w : World} {g : Nat} {x : RatL} {bn bd : Option Addr} {m1 m2 : Nat} (hN : NoInt w g) (h1 : x.num.length ≤ m1) (h2 : x.den.length ≤ m2) (k5 : U32s w bn x.num) (k6 : U32s w bd x.den) :
    RatV (((w.setCell ⟨g, 0, none⟩ (.bool x.neg)).setCell ⟨g, 1, none⟩ (.slice bn x.num.length m1)).setCell ⟨g, 2, none⟩ (.slice bd x.den.length m2)) (.agg #[.bool x.neg, .slice bn x.num.length m1, .slice bd x.den.length m2]) x := by
  refine ⟨bn, bd, m1, m2, rfl, h1, h2, ?_, ?_⟩
  · exact ((k5.setCell hN _ _).setCell (hN.setCell _ _ (by simp)) _ _).setCell ((hN.setCell _ _ (by simp)).setCell _ _ (by simp)) _ _
  · exact ((k6.setCell hN _ _).setCell (hN.setCell _ _ (by simp)) _ _).setCell ((hN.setCell _ _ (by simp)).setCell _ _ (by simp)) _ _
theorem below_store3 {n g : Nat} {w w' : World} (h : Below n w w') (hg : n ≤ g) (p q r : Value) : Below n w (((w'.setCell ⟨g, 0, none⟩ p).setCell ⟨g, 1, none⟩ q).setCell ⟨g, 2, none⟩ r) :=
  ((h.setCell (p := ⟨g, 0, none⟩) hg p).setCell (p := ⟨g, 1, none⟩) hg q).setCell (p := ⟨g, 2, none⟩) hg r

theorem limbs_one : limbs 1 = [1] := by rw [limbs_pos (by omega), limbs_zero]

set_option maxRecDepth 100000 in
set_option maxHeartbeats 3200000 in
theorem r3quot {w : World} {a b : Option Addr} {l m : List Nat} (neg : Bool) (c e : Nat) (hc : l.length ≤ c) (he : m.length ≤ e) (h : U32s w a l) (g : U32s w b m) {n d : Nat} (hx : lval l = n) (hy : lval m = d) (hr : l.length ≤ 2097152) (hr2 : m.length ≤ 2097152) (hd : 0 < d) :
    Calls Try.prog 48 #[.bool neg, .slice a l.length c, .slice b m.length e] w (RetR w (quotN neg n d)) := by
  have hR := Box3.alloc w (.bool false) (.slice none 0 0) (.slice none 0 0) 25
  have hN := NoInt.alloc w #[.bool false, .slice none 0 0, .slice none 0 0] 25 (by simp)
  have hB0 : Below w.heap.size w (w.alloc (.cells #[.bool false, .slice none 0 0, .slice none 0 0] 25)) := (Below.refl _ _).alloc (Nat.le_refl _) _
  have HG := Lib.hid (r1Gcd c e hc he (h.below hB0) (g.below hB0) hx hy hr hr2)
  have hgp : 0 < Nat.gcd n d := Nat.gcd_pos_of_pos_right n hd
  have hgl : (limbs (Nat.gcd n d)).length ≤ m.length := by
    refine Nat.le_trans (limbs_len_mono (Nat.gcd_le_right n hd)) ?_
    rw [← hy]; exact limbs_len_of_lval g.lim
  have hD1 := fun wv (hu : U32s wv a l) a1 c1 hc1 (hg : U32s wv a1 (limbs (Nat.gcd n d))) => r1DivMod c c1 hc hc1 hu hg hx (lval_limbs _) hr (by omega) hgp
  have hD2 := fun wv (hu : U32s wv b m) a1 c1 hc1 (hg : U32s wv a1 (limbs (Nat.gcd n d))) => r1DivMod e c1 he hc1 hu hg hy (lval_limbs _) hr2 (by omega) hgp
  have HD1 := Lib.hid hD1
  have HD2 := Lib.hid hD2
  have HR := Lib.hid hR
  have HN := Lib.hid hN
  have HB0 := Lib.hid hB0
  have HH := Lib.hid (h.below hB0)
  have HGG := Lib.hid (g.below hB0)
  have HQ : Hid (quotN neg n d = ⟨neg && decide (0 < (limbs (n / Nat.gcd n d)).length), limbs (n / Nat.gcd n d), if d / Nat.gcd n d = 1 then [] else limbs (d / Nat.gcd n d)⟩) := by
    unfold Hid quotN
    congr 2
    rw [decide_eq_decide, limbs_pos_iff]
    obtain ⟨k, hk⟩ := Nat.gcd_dvd_left n d
    generalize Nat.gcd n d = G at *
    subst hk
    rw [Nat.mul_div_cancel_left _ hgp]
    constructor
    · intro h; exact Nat.pos_of_ne_zero (fun e => h (by rw [e, Nat.mul_zero]))
    · intro h e
      rcases Nat.mul_eq_zero.1 e with h1 | h1 <;> omega
  have hdp : 0 < d / Nat.gcd n d := Nat.div_pos (Nat.gcd_le_right n hd) hgp
  clear h g hx hy hR hN hB0 hD1 hD2 hd
  generalize Nat.gcd n d = G at *
  go_enter Try.func48, Try.ntmps48
  go_wp2_with fail
  refine HG.out.mono ?_
  rintro ee w1 ⟨a1, c1, rfl, h1, h2, hb1⟩
  have D1 := Lib.hid (HD1.out w1 (HH.out.below hb1) a1 c1 h1 h2)
  have HG1 := Lib.hid (HGG.out.below hb1)
  have H2 := Lib.hid h2
  have HR1 := Lib.hid (HR.out.below hb1)
  have HN1 := Lib.hid (HN.out.below hb1 HR.out.lt)
  have HB1 := Lib.hid (HB0.out.trans (hb1.mono HB0.out.size))
  clear HG HH HGG h2 HR HN HB0 hb1 HD1
  go_wp2_with fail
  refine D1.out.mono ?_
  rintro ee w2 ⟨a2, c2, a2', c2', rfl, k1, k2, k3, k4, hb2⟩
  have D2 := Lib.hid (HD2.out w2 (HG1.out.below hb2) a1 c1 h1 (H2.out.below hb2))
  have K3 := Lib.hid k3
  have HR2 := Lib.hid (HR1.out.below hb2)
  have HN2 := Lib.hid (HN1.out.below hb2 HR1.out.lt)
  have HB2 := Lib.hid (HB1.out.trans (hb2.mono HB1.out.size))
  clear D1 HG1 H2 HR1 HN1 HB1 k3 k4 hb2 HD2
  go_wp2_with fail
  refine D2.out.mono ?_
  rintro ee w3 ⟨a3, c3, a3', c3', rfl, j1, j2, j3, j4, hb3⟩
  have K3' := Lib.hid (K3.out.below hb3)
  have J3 := Lib.hid j3
  obtain ⟨r0, r1, r2, rf, rlt⟩ := HR2.out.below hb3
  have HN3 := Lib.hid (HN2.out.below hb3 HR2.out.lt)
  have HB3 := Lib.hid (HB2.out.trans (hb3.mono HB2.out.size))
  have hj := Lib.hid j3
  clear D2 K3 HR2 HN2 HB2 j4 hb3
  generalize limbs (n / G) = L at *
  have hneg : ∀ B : Bool, B = (neg && decide (0 < L.length)) → True := fun _ _ => trivial
  clear hneg
  by_cases h1 : d / G = 1
  · have HQ1 := Lib.hid (HQ.out)
    rw [if_pos h1] at HQ1
    have hl1 : (limbs (d / G)).length = 1 := by rw [h1, limbs_one]; rfl
    obtain ⟨p1, o1, rfl, hp1, q1⟩ := j3.pick (show 0 < (limbs (d / G)).length by omega)
    have hdg : dig (limbs (d / G)) 0 = 1 := by rw [h1, limbs_one]; rfl
    rw [hdg, Nat.add_zero] at q1
    have hbe : ∀ B : Bool, Below w.heap.size w (((w3.setCell ⟨w.heap.size, 0, none⟩ (.bool B)).setCell ⟨w.heap.size, 1, none⟩ (.slice a2 L.length c2)).setCell ⟨w.heap.size, 2, none⟩ (.slice none 0 0)) := fun B => below_store3 HB3.out (Nat.le_refl _) _ _ _
    have hst := fun B : Bool => RatV.store (x := ⟨B, L, []⟩) (bd := none) (m2 := 0) HN3.out k1 (Nat.le_refl _) K3'.out (U32s.nil _ _)
    have HBE := Lib.hid hbe
    have HST := Lib.hid hst
    rw [hl1] at j1 ⊢
    clear hl1 hdg h1 j3 hbe hst
    cases hL : decide (0 < L.length)
    · cases neg <;>
      · go_wp2
        exact bodyPost_ret (v := .agg #[.bool false, .slice a2 L.length c2, .slice none 0 0]) (by simp [results, Try.results48, go_sem, r0, r1, r2]) rfl ⟨_, rfl, by rw [HQ1.out, hL]; exact HST.out false, HBE.out false⟩
    · cases neg
      · go_wp2
        exact bodyPost_ret (v := .agg #[.bool false, .slice a2 L.length c2, .slice none 0 0]) (by simp [results, Try.results48, go_sem, r0, r1, r2]) rfl ⟨_, rfl, by rw [HQ1.out, hL]; exact HST.out false, HBE.out false⟩
      · go_wp2
        exact bodyPost_ret (v := .agg #[.bool true, .slice a2 L.length c2, .slice none 0 0]) (by simp [results, Try.results48, go_sem, r0, r1, r2]) rfl ⟨_, rfl, by rw [HQ1.out, hL]; exact HST.out true, HBE.out true⟩
  · have HQ1 := Lib.hid (HQ.out)
    rw [if_neg h1] at HQ1
    have hbe : ∀ B : Bool, Below w.heap.size w (((w3.setCell ⟨w.heap.size, 0, none⟩ (.bool B)).setCell ⟨w.heap.size, 1, none⟩ (.slice a2 L.length c2)).setCell ⟨w.heap.size, 2, none⟩ (.slice a3 (limbs (d / G)).length c3)) := fun B => below_store3 HB3.out (Nat.le_refl _) _ _ _
    have hst := fun B : Bool => RatV.store (x := ⟨B, L, limbs (d / G)⟩) HN3.out k1 j1 K3'.out J3.out
    have HBE := Lib.hid hbe
    have HST := Lib.hid hst
    by_cases hl1 : (limbs (d / G)).length = 1
    · obtain ⟨p1, o1, rfl, hp1, q1⟩ := j3.pick (show 0 < (limbs (d / G)).length by omega)
      have hd1 := limbs_len1 hl1
      have hne : ((dig (limbs (d / G)) 0 : Int) == 1) = false := by rw [beq_eq_false_iff_ne]; omega
      rw [Nat.add_zero] at q1
      generalize dig (limbs (d / G)) 0 = dg at *
      clear h1 j3 hbe hst hd1 hdp
      generalize hLd : limbs (d / G) = LD at *
      have hst1 := HST.out
      have hbe1 := HBE.out
      simp only [hl1] at hst1 hbe1
      have HST1 := Lib.hid hst1
      have HBE1 := Lib.hid hbe1
      rw [hl1] at j1 ⊢
      clear hLd hl1 hst1 hbe1
      cases hL : decide (0 < L.length)
      · cases neg <;>
        · go_wp2
          exact bodyPost_ret (v := .agg #[.bool false, .slice a2 L.length c2, .slice (some ⟨p1, o1, none⟩) 1 c3]) (by simp [results, Try.results48, go_sem, r0, r1, r2]) rfl ⟨_, rfl, by rw [HQ1.out, hL]; exact HST1.out false, HBE1.out false⟩
      · cases neg
        · go_wp2
          exact bodyPost_ret (v := .agg #[.bool false, .slice a2 L.length c2, .slice (some ⟨p1, o1, none⟩) 1 c3]) (by simp [results, Try.results48, go_sem, r0, r1, r2]) rfl ⟨_, rfl, by rw [HQ1.out, hL]; exact HST1.out false, HBE1.out false⟩
        · go_wp2
          exact bodyPost_ret (v := .agg #[.bool true, .slice a2 L.length c2, .slice (some ⟨p1, o1, none⟩) 1 c3]) (by simp [results, Try.results48, go_sem, r0, r1, r2]) rfl ⟨_, rfl, by rw [HQ1.out, hL]; exact HST1.out true, HBE1.out true⟩
    · have hne : (((limbs (d / G)).length : Int) == 1) = false := by rw [beq_eq_false_iff_ne]; omega
      clear h1 j3 hbe hst hdp hl1
      cases hL : decide (0 < L.length)
      · cases neg <;>
        · go_wp2
          exact bodyPost_ret (v := .agg #[.bool false, .slice a2 L.length c2, .slice a3 (limbs (d / G)).length c3]) (by simp [results, Try.results48, go_sem, r0, r1, r2]) rfl ⟨_, rfl, by rw [HQ1.out, hL]; exact HST.out false, HBE.out false⟩
      · cases neg
        · go_wp2
          exact bodyPost_ret (v := .agg #[.bool false, .slice a2 L.length c2, .slice a3 (limbs (d / G)).length c3]) (by simp [results, Try.results48, go_sem, r0, r1, r2]) rfl ⟨_, rfl, by rw [HQ1.out, hL]; exact HST.out false, HBE.out false⟩
        · go_wp2
          exact bodyPost_ret (v := .agg #[.bool true, .slice a2 L.length c2, .slice a3 (limbs (d / G)).length c3]) (by simp [results, Try.results48, go_sem, r0, r1, r2]) rfl ⟨_, rfl, by rw [HQ1.out, hL]; exact HST.out true, HBE.out true⟩

end Go.Proofs.Ytfmhedfiklidhaa

/-
  The reference's Canon, Mul, Neg of layer 3: by contract.
-/
namespace Go.Proofs.Ytfmhedfiklidhaa
open Go.RowKit


set_option maxRecDepth 100000 in
set_option maxHeartbeats 1600000 in
theorem r3Canon {w : World} {v : Value} {x : RatL} (h : RatV w v x) (hr : RatLe x 1048576) : Calls Try.prog 55 #[v] w (RetR w (canonL x)) := by
  obtain ⟨an, ad, cn, cd, hv, h2, h3, h4, h5⟩ := h.ex
  obtain ⟨hr1, hr2⟩ := hr
  have hl1 := h4.len
  have hl2 := h5.len
  have H4 := Lib.hid h4
  have H5 := Lib.hid h5
  rw [hv]
  clear h h4 h5 hv
  go_enter Try.func55, Try.ntmps55
  go_wp2_with fail
  have hB0 : Below w.heap.size w ((w.alloc (.cells #[.bool x.neg, .slice an x.num.length cn, .slice ad x.den.length cd] 25)).alloc (.cells #[.bool false, .slice none 0 0, .slice none 0 0] 25)) :=
    ((Below.refl _ _).alloc (Nat.le_refl _) _).alloc (by simp) _
  have hX : Box3 ((w.alloc (.cells #[.bool x.neg, .slice an x.num.length cn, .slice ad x.den.length cd] 25)).alloc (.cells #[.bool false, .slice none 0 0, .slice none 0 0] 25)) w.heap.size (.bool x.neg) (.slice an x.num.length cn) (.slice ad x.den.length cd) :=
    (Box3.alloc w _ _ _ _).below ((Below.refl _ _).alloc (Nat.le_refl _) _)
  have hR : Box3 ((w.alloc (.cells #[.bool x.neg, .slice an x.num.length cn, .slice ad x.den.length cd] 25)).alloc (.cells #[.bool false, .slice none 0 0, .slice none 0 0] 25)) (w.heap.size + 1) (.bool false) (.slice none 0 0) (.slice none 0 0) := by
    have := Box3.alloc (w.alloc (.cells #[.bool x.neg, .slice an x.num.length cn, .slice ad x.den.length cd] 25)) (.bool false) (.slice none 0 0) (.slice none 0 0) 25
    simpa using this
  have hN : NoInt ((w.alloc (.cells #[.bool x.neg, .slice an x.num.length cn, .slice ad x.den.length cd] 25)).alloc (.cells #[.bool false, .slice none 0 0, .slice none 0 0] 25)) (w.heap.size + 1) := by
    have := NoInt.alloc (w.alloc (.cells #[.bool x.neg, .slice an x.num.length cn, .slice ad x.den.length cd] 25)) #[.bool false, .slice none 0 0, .slice none 0 0] 25 (by simp)
    simpa using this
  generalize (w.alloc (.cells #[.bool x.neg, .slice an x.num.length cn, .slice ad x.den.length cd] 25)).alloc (.cells #[.bool false, .slice none 0 0, .slice none 0 0] 25) = W at *
  have H52 := Lib.hid (H5.out.below hB0)
  have H42 := Lib.hid (H4.out.below hB0)
  obtain ⟨x0, x1, x2, xf, xlt⟩ := hX
  have HR := Lib.hid hR
  have HNo := Lib.hid hN
  have HB := Lib.hid hB0
  have xbl : Below W.heap.size W W.drew := (Below.refl _ _).drew
  clear hR hN hB0 xf H5 H4
  go_region_held3 (fun w' => w'.cell? ⟨w.heap.size, 0, none⟩ = some (.bool x.neg) ∧ w'.cell? ⟨w.heap.size, 1, none⟩ = some (.slice an x.num.length cn) ∧ w'.cell? ⟨w.heap.size, 2, none⟩ = some (.slice ad x.den.length cd))
    (first | exact S3_keep x0 x1 x2 xlt ‹Below W.heap.size W _› | go_keep)
    (first
      | (go_at_call 49; have hS := ‹Below W.heap.size W _›; refine (r3one cd h3 (H52.out.below hS) (by omega)).mono ?_; rintro e w1 ⟨a1, c1, l1, rfl, g1, g2, g3, g4, g5⟩
         have hS1 := hS.trans (g5.mono hS.size))
      | (go_at_call 48; have hS := ‹Below W.heap.size W _›; refine (r3quot x.neg cn c1 h2 g1 (H42.out.below hS) g2 rfl g3 (by omega) (by omega) (underN_pos _)).mono ?_
         rintro e w2 ⟨v2, rfl, ⟨bn, bd, m1, m2, rfl, k3, k4, k5, k6⟩, k2⟩
         have hS2 := hS.trans (k2.mono hS.size)
         obtain ⟨r0, r1, r2, rf, rlt⟩ := HR.out.below hS2
         have hN2 := Lib.hid (HNo.out.below hS2 HR.out.lt)
         have K5 := Lib.hid k5
         have K6 := Lib.hid k6
         have hB2 := Lib.hid (HB.out.trans (hS2.mono HB.out.size))))
  go_wp2
  exact bodyPost_ret (v := .agg #[.bool (canonL x).neg, .slice bn (canonL x).num.length m1, .slice bd (canonL x).den.length m2]) (by simp [results, Try.results55, go_sem, r0, r1, r2, canonL]) rfl ⟨_, rfl, RatV.store hN2.out k3 k4 K5.out K6.out, below_store3 hB2.out (Nat.le_succ _) _ _ _⟩

end Go.Proofs.Ytfmhedfiklidhaa

/-
  The reference's Mul and Neg of layer 3: by contract.
-/
namespace Go.Proofs.Ytfmhedfiklidhaa
open Go.RowKit

/-- Two rationals boxed, and a result's place. -/
structure TwoR (w W : World) (g : Nat) (p q r s t u : Value) : Prop where
  a : Box3 W g p q r
  b : Box3 W (g + 1) s t u
  c : Box3 W (g + 1 + 1) (.bool false) (.slice none 0 0) (.slice none 0 0)
  nc : NoInt W (g + 1 + 1)
  bl : Below g w W
theorem TwoR.mk' (w : World) (p q r s t u : Value) (T : Nat) : TwoR w (((w.alloc (.cells #[p, q, r] T)).alloc (.cells #[s, t, u] T)).alloc (.cells #[.bool false, .slice none 0 0, .slice none 0 0] T)) w.heap.size p q r s t u := by
  have step : ∀ (W : World) (o : Obj), Below W.heap.size W (W.alloc o) := fun W o => (Below.refl _ _).alloc (Nat.le_refl _) _
  have s1 := step w (.cells #[p, q, r] T)
  have s2 := step (w.alloc (.cells #[p, q, r] T)) (.cells #[s, t, u] T)
  have s3 := step ((w.alloc (.cells #[p, q, r] T)).alloc (.cells #[s, t, u] T)) (.cells #[.bool false, .slice none 0 0, .slice none 0 0] T)
  have b1 := Box3.alloc w p q r T
  have b2 := Box3.alloc (w.alloc (.cells #[p, q, r] T)) s t u T
  have b3 := Box3.alloc ((w.alloc (.cells #[p, q, r] T)).alloc (.cells #[s, t, u] T)) (.bool false) (.slice none 0 0) (.slice none 0 0) T
  have n3 := NoInt.alloc ((w.alloc (.cells #[p, q, r] T)).alloc (.cells #[s, t, u] T)) #[.bool false, .slice none 0 0, .slice none 0 0] T (by simp)
  have b1' := (b1.below s2).below s3
  have b2' := b2.below s3
  have bl := (s1.trans (s2.mono (by simp))).trans (s3.mono (by simp; omega))
  simp only [World.size_alloc] at b2' b3 n3
  exact ⟨b1', b2', b3, n3, bl⟩

set_option maxRecDepth 100000 in
set_option maxHeartbeats 3200000 in
theorem r3Mul {w : World} {v u : Value} {x y : RatL} (hv : RatV w v x) (hu : RatV w u y) (hx : RatLe x 1048575) (hy : RatLe y 1048575) :
    Calls Try.prog 19 #[v, u] w (RetR w (ratL (ratOf x * ratOf y))) := by
  obtain ⟨an, ad, cn, cd, rfl, a2, a3, a4, a5⟩ := hv.ex
  obtain ⟨bn, bd, dn, dd, rfl, b2, b3, b4, b5⟩ := hu.ex
  have hQ : Hid (ratL (ratOf x * ratOf y) = quotN (x.neg != y.neg) (lval x.num * lval y.num) (underN x.den * underN y.den)) := by
    unfold Hid
    rw [quotN_ratL _ _ (Nat.mul_pos (underN_pos _) (underN_pos _)), mulQ]; rfl
  obtain ⟨hx1, hx2⟩ := hx
  obtain ⟨hy1, hy2⟩ := hy
  have hl1 := a4.len
  have hl2 := a5.len
  have hl3 := b4.len
  have hl4 := b5.len
  have A4 := Lib.hid a4
  have A5 := Lib.hid a5
  have B4 := Lib.hid b4
  have B5 := Lib.hid b5
  have hml : (limbs (lval x.num * lval y.num)).length ≤ 2097152 := Nat.le_trans (mul_len rfl rfl hx1 hy1 a4.lim b4.lim) (by omega)
  have hdp : 0 < underN x.den * underN y.den := Nat.mul_pos (underN_pos _) (underN_pos _)
  have HDp := Lib.hid hdp
  clear hv hu a4 a5 b4 b5 hdp
  go_enter Try.func19, Try.ntmps19
  go_wp2_with fail
  have hF := TwoR.mk' w (.bool x.neg) (.slice an x.num.length cn) (.slice ad x.den.length cd) (.bool y.neg) (.slice bn y.num.length dn) (.slice bd y.den.length dd) 25
  generalize ((w.alloc (.cells #[.bool x.neg, .slice an x.num.length cn, .slice ad x.den.length cd] 25)).alloc (.cells #[.bool y.neg, .slice bn y.num.length dn, .slice bd y.den.length dd] 25)).alloc (.cells #[.bool false, .slice none 0 0, .slice none 0 0] 25) = W at *
  have HF := Lib.hid hF
  have HA4 := Lib.hid (A4.out.below hF.bl)
  have HA5 := Lib.hid (A5.out.below hF.bl)
  have HB4 := Lib.hid (B4.out.below hF.bl)
  have HB5 := Lib.hid (B5.out.below hF.bl)
  have xbl : Below W.heap.size W W.drew := (Below.refl _ _).drew
  have tok1 : True := trivial
  have tok2 : True := trivial
  clear hF A4 A5 B4 B5
  go_region_held3 (fun w' => w'.cell? ⟨w.heap.size, 0, none⟩ = some (.bool x.neg) ∧ w'.cell? ⟨w.heap.size, 1, none⟩ = some (.slice an x.num.length cn) ∧ w'.cell? ⟨w.heap.size, 2, none⟩ = some (.slice ad x.den.length cd) ∧
      w'.cell? ⟨w.heap.size + 1, 0, none⟩ = some (.bool y.neg) ∧ w'.cell? ⟨w.heap.size + 1, 1, none⟩ = some (.slice bn y.num.length dn) ∧ w'.cell? ⟨w.heap.size + 1, 2, none⟩ = some (.slice bd y.den.length dd))
    (first | exact S33_keep HF.out.a HF.out.b HF.out.a.lt HF.out.b.lt ‹Below W.heap.size W _› | exact S33_keep (B := w.heap.size + 1 + 1) HF.out.a HF.out.b (Nat.lt_succ_of_lt (Nat.lt_succ_self _)) (Nat.lt_succ_self _) (below_store3 (hS5.mono (Nat.le_of_lt HF.out.c.lt)) (Nat.le_refl _) _ _ _))
    (first
      | (go_at_call 34; have _t := tok1; clear tok1; have hS := ‹Below W.heap.size W _›; refine (r1Mul cn dn (HA4.out.below hS) (HB4.out.below hS) rfl rfl (by omega)).mono ?_; rintro e w1 ⟨a1, c1, rfl, g1, g2, g3, _⟩
         have hS1 := hS.trans (g3.mono hS.size); have G2 := Lib.hid g2; clear g2)
      | (go_at_call 49; have _t := tok2; clear tok2; have hS := ‹Below W.heap.size W _›; refine (r3one cd a3 (HA5.out.below hS) (by omega)).mono ?_; rintro e w2 ⟨a2', c2, l2, rfl, p1, p2, p3, p4, p5⟩
         have hS2 := hS.trans (p5.mono hS.size); have G2b := Lib.hid (G2.out.below p5); have P2 := Lib.hid p2; have P3 := Lib.hid p3; clear p2 p3)
      | (go_at_call 49; have hS := ‹Below W.heap.size W _›; refine (r3one dd b3 (HB5.out.below hS) (by omega)).mono ?_; rintro e w3 ⟨a3', c3, l3, rfl, q1, q2, q3, q4, q5⟩
         have hS3 := hS.trans (q5.mono hS.size); have G2c := Lib.hid (G2b.out.below q5); have P2b := Lib.hid (P2.out.below q5); have Q2 := Lib.hid q2; have Q3 := Lib.hid q3; clear q2 q3)
      | (go_at_call 34; have hS := ‹Below W.heap.size W _›; refine (r1Mul c2 c3 P2b.out Q2.out P3.out Q3.out (by omega)).mono ?_; rintro e w4 ⟨a4, c4, rfl, t1, t2, t3, _⟩
         have hS4 := hS.trans (t3.mono hS.size); have G2d := Lib.hid (G2c.out.below t3); have T2 := Lib.hid t2; clear t2
         have hdl : (limbs (underN x.den * underN y.den)).length ≤ 2097152 := Nat.le_trans (mul_len P3.out Q3.out p4 q4 P2b.out.lim Q2.out.lim) (by omega))
      | (go_at_call 48; have hS := ‹Below W.heap.size W _›; refine (r3quot (x.neg != y.neg) c1 c4 g1 t1 G2d.out T2.out (lval_limbs _) (lval_limbs _) hml hdl HDp.out).mono ?_
         rintro e w5 ⟨v5, rfl, ⟨bn', bd', m1, m2, rfl, k3, k4, k5, k6⟩, k2⟩
         have hS5 := hS.trans (k2.mono hS.size)
         obtain ⟨r0, r1, r2, rf, rlt⟩ := HF.out.c.below hS5
         have hN5 := Lib.hid (HF.out.nc.below hS5 HF.out.c.lt)
         have K5 := Lib.hid k5
         have K6 := Lib.hid k6
         have hB5 := Lib.hid (HF.out.bl.trans (hS5.mono (by have := HF.out.a.lt; omega)))))
  generalize quotN (x.neg != y.neg) (lval x.num * lval y.num) (underN x.den * underN y.den) = R at *
  go_wp2
  exact bodyPost_ret (v := .agg #[.bool R.neg, .slice bn' R.num.length m1, .slice bd' R.den.length m2]) (by simp [results, Try.results19, go_sem, r0, r1, r2]) rfl ⟨_, rfl, by rw [hQ.out]; exact RatV.store hN5.out k3 k4 K5.out K6.out, below_store3 hB5.out (by omega) _ _ _⟩

end Go.Proofs.Ytfmhedfiklidhaa

/-
  The reference's Add of layer 2: by contract.
-/
namespace Go.Proofs.Ytfmhedfiklidhaa
open Go.RowKit

/-- Two integers boxed, and a result's place. -/
structure TwoI (w W : World) (g : Nat) (p q r s : Value) : Prop where
  a : Box2 W g p q
  b : Box2 W (g + 1) r s
  c : Box2 W (g + 1 + 1) (.bool false) (.slice none 0 0)
  nc : NoInt W (g + 1 + 1)
  bl : Below g w W
theorem TwoI.mk' (w : World) (p q r s : Value) (T : Nat) : TwoI w (((w.alloc (.cells #[p, q] T)).alloc (.cells #[r, s] T)).alloc (.cells #[.bool false, .slice none 0 0] T)) w.heap.size p q r s := by
  have step : ∀ (W : World) (o : Obj), Below W.heap.size W (W.alloc o) := fun W o => (Below.refl _ _).alloc (Nat.le_refl _) _
  have s1 := step w (.cells #[p, q] T)
  have s2 := step (w.alloc (.cells #[p, q] T)) (.cells #[r, s] T)
  have s3 := step ((w.alloc (.cells #[p, q] T)).alloc (.cells #[r, s] T)) (.cells #[.bool false, .slice none 0 0] T)
  have b1 := Box2.alloc w p q T
  have b2 := Box2.alloc (w.alloc (.cells #[p, q] T)) r s T
  have b3 := Box2.alloc ((w.alloc (.cells #[p, q] T)).alloc (.cells #[r, s] T)) (.bool false) (.slice none 0 0) T
  have n3 := NoInt.alloc ((w.alloc (.cells #[p, q] T)).alloc (.cells #[r, s] T)) #[.bool false, .slice none 0 0] T (by simp)
  have b1' := (b1.below s2).below s3
  have b2' := b2.below s3
  have bl := (s1.trans (s2.mono (by simp))).trans (s3.mono (by simp; omega))
  simp only [World.size_alloc] at b2' b3 n3
  exact ⟨b1', b2', b3, n3, bl⟩
theorem below_store2 {n g : Nat} {w w' : World} (h : Below n w w') (hg : n ≤ g) (p q : Value) : Below n w ((w'.setCell ⟨g, 0, none⟩ p).setCell ⟨g, 1, none⟩ q) :=
  (h.setCell (p := ⟨g, 0, none⟩) hg p).setCell (p := ⟨g, 1, none⟩) hg q
theorem IntC.store {w : World} {g : Nat} {z : Int} {a : Option Addr} {c : Nat} (hN : NoInt w g) (h1 : (limbs z.natAbs).length ≤ c) (k : U32s w a (limbs z.natAbs)) :
    IntC ((w.setCell ⟨g, 0, none⟩ (.bool (decide (z < 0)))).setCell ⟨g, 1, none⟩ (.slice a (limbs z.natAbs).length c)) (.agg #[.bool (decide (z < 0)), .slice a (limbs z.natAbs).length c]) z :=
  ⟨a, c, rfl, h1, (k.setCell hN _ _).setCell (hN.setCell _ _ (by simp)) _ _⟩

theorem add_len {l m : List Nat} {N : Nat} (hl : Lim l) (hm : Lim m) (h1 : l.length ≤ N) (h2 : m.length ≤ N) : (limbs (lval l + lval m)).length ≤ N + 1 := by
  refine limbs_len_le ?_
  have e1 := Nat.lt_of_lt_of_le (lval_lt hl) (Nat.pow_le_pow_right (show 0 < 4294967296 by omega) h1)
  have e2 := Nat.lt_of_lt_of_le (lval_lt hm) (Nat.pow_le_pow_right (show 0 < 4294967296 by omega) h2)
  rw [Nat.pow_succ]
  omega
theorem sgn_add_same (b : Bool) (x y : Nat) : sgn b (x + y) = sgn b x + sgn b y := by cases b <;> simp [sgn] <;> omega
theorem sgn_add_ge {a b : Bool} (h : a ≠ b) {x y : Nat} (hxy : y ≤ x) : sgn a (x - y) = sgn a x + sgn b y := by
  cases a <;> cases b <;> simp [sgn] at h ⊢ <;> omega
theorem sgn_add_lt {a b : Bool} (h : a ≠ b) {x y : Nat} (hxy : x < y) : sgn b (y - x) = sgn a x + sgn b y := by
  cases a <;> cases b <;> simp [sgn] at h ⊢ <;> omega

set_option maxRecDepth 100000 in
set_option maxHeartbeats 3200000 in
theorem r2Add_same {w : World} {v u : Value} {n1 : Bool} {x y k1 k2 : Nat} (hv : IntV w v n1 x k1) (hu : IntV w u n1 y k2) (hr1 : k1 ≤ 4194304) (hr2 : k2 ≤ 4194304) :
    Calls Try.prog 88 #[v, u] w (RetZ w (sgn n1 x + sgn n1 y)) := by
  obtain ⟨a, c, l, rfl, h1, h2, h3, h4⟩ := hv.ex
  obtain ⟨b, d, m, rfl, g1, g2, g3, g4⟩ := hu.ex
  have hl1 := h2.len
  have hl2 := g2.len
  have H2 := Lib.hid h2
  have G2 := Lib.hid g2
  have H3 := Lib.hid h3
  have G3 := Lib.hid g3
  have hsl : (limbs (x + y)).length ≤ 4194305 := by rw [← h3, ← g3]; exact add_len h2.lim g2.lim (by omega) (by omega)
  rw [← sgn_add_same]
  clear hv hu h2 g2 h3 g3
  go_enter Try.func88, Try.ntmps88
  have hF := TwoI.mk' w (.bool n1) (.slice a l.length c) (.bool n1) (.slice b m.length d) 62
  go_wp2
  generalize ((w.alloc (.cells #[.bool n1, .slice a l.length c] 62)).alloc (.cells #[.bool n1, .slice b m.length d] 62)).alloc (.cells #[.bool false, .slice none 0 0] 62) = W at *
  have HF := Lib.hid hF
  have HH2 := Lib.hid (H2.out.below hF.bl)
  have HG2 := Lib.hid (G2.out.below hF.bl)
  have xbl : Below W.heap.size W W.drew := (Below.refl _ _).drew
  clear hF H2 G2
  go_region_held3 (fun w' => w'.cell? ⟨w.heap.size, 0, none⟩ = some (.bool n1) ∧ w'.cell? ⟨w.heap.size, 1, none⟩ = some (.slice a l.length c) ∧ w'.cell? ⟨w.heap.size + 1, 0, none⟩ = some (.bool n1) ∧ w'.cell? ⟨w.heap.size + 1, 1, none⟩ = some (.slice b m.length d))
    (first | exact S22_keep HF.out.a HF.out.b ‹Below W.heap.size W _› | exact S22_store HF.out.a HF.out.b ‹Below W.heap.size W _› _ _)
    (first
      | (go_at_call 33; have hS := ‹Below W.heap.size W _›; refine (r1Add c d (HH2.out.below hS) (HG2.out.below hS) H3.out G3.out (by omega) (by omega)).mono ?_; rintro e w1 ⟨a1, c1, rfl, p1, p2, p3, _⟩
         have hS1 := hS.trans (p3.mono hS.size))
      | (go_at_call 36; have hS := ‹Below W.heap.size W _›; refine (r2Make n1 c1 p1 p2 (lval_limbs _) (by omega)).mono ?_
         rintro e w2 ⟨v2, rfl, ⟨a3, c3, rfl, q1, q2⟩, q5⟩
         have hS2 := hS.trans (q5.mono hS.size)
         obtain ⟨r0, r1, rf, rlt⟩ := HF.out.c.below hS2
         have hN2 := Lib.hid (HF.out.nc.below hS2 HF.out.c.lt)
         have Q2 := Lib.hid q2
         have hB2 := Lib.hid (HF.out.bl.trans (hS2.mono (by have := HF.out.a.lt; omega)))))
  have HI := Lib.hid (IntC.store hN2.out q1 Q2.out)
  have HBf := Lib.hid (below_store2 (p := .bool (decide (sgn n1 (x + y) < 0))) (q := .slice a3 (limbs (sgn n1 (x + y)).natAbs).length c3) hB2.out (show w.heap.size ≤ w.heap.size + 1 + 1 by omega))
  generalize decide (sgn n1 (x + y) < 0) = B at *
  generalize (limbs (sgn n1 (x + y)).natAbs).length = L at *
  go_wp2
  exact bodyPost_ret (v := .agg #[.bool B, .slice a3 L c3]) (by simp [results, Try.results88, go_sem, r0, r1]) rfl ⟨_, rfl, HI.out, HBf.out⟩

set_option maxRecDepth 100000 in
set_option maxHeartbeats 3200000 in
theorem r2Add_diff {w : World} {v u : Value} {n1 n2 : Bool} {x y k1 k2 : Nat} (hv : IntV w v n1 x k1) (hu : IntV w u n2 y k2) (hn : n1 ≠ n2) (hr1 : k1 ≤ 4194304) (hr2 : k2 ≤ 4194304) :
    Calls Try.prog 88 #[v, u] w (RetZ w (sgn n1 x + sgn n2 y)) := by
  obtain ⟨a, c, l, rfl, h1, h2, h3, h4⟩ := hv.ex
  obtain ⟨b, d, m, rfl, g1, g2, g3, g4⟩ := hu.ex
  have hl1 := h2.len
  have hl2 := g2.len
  have H2 := Lib.hid h2
  have G2 := Lib.hid g2
  have H3 := Lib.hid h3
  have G3 := Lib.hid g3
  have hne : (n1 == n2) = false := by simpa using hn
  have HN := Lib.hid hn
  have hlx : (limbs x).length ≤ 4194304 := by have := limbs_len_of_lval h2.lim; rw [h3] at this; omega
  have hly : (limbs y).length ≤ 4194304 := by have := limbs_len_of_lval g2.lim; rw [g3] at this; omega
  clear hv hu h2 g2 h3 g3 hn
  go_enter Try.func88, Try.ntmps88
  have hF := TwoI.mk' w (.bool n1) (.slice a l.length c) (.bool n2) (.slice b m.length d) 62
  go_wp2_with fail
  generalize ((w.alloc (.cells #[.bool n1, .slice a l.length c] 62)).alloc (.cells #[.bool n2, .slice b m.length d] 62)).alloc (.cells #[.bool false, .slice none 0 0] 62) = W at *
  have HF := Lib.hid hF
  have HH2 := Lib.hid (H2.out.below hF.bl)
  have HG2 := Lib.hid (G2.out.below hF.bl)
  have HS1 := Lib.hid (r1Sub c d HH2.out HG2.out H3.out G3.out (by omega) (by omega))
  clear hF H2 G2 hne
  refine HS1.out.mono ?_
  rintro e w1 (⟨hlt, rfl, hb1⟩ | ⟨hge, hb1, a1, c1, rfl, p1, p2, _⟩)
  · obtain ⟨r0, r1, rf, rlt⟩ := HF.out.a.below hb1
    obtain ⟨s0, s1, sf, slt⟩ := HF.out.b.below hb1
    have HB1 := Lib.hid hb1
    have HS2 := Lib.hid (r1Sub d c (HG2.out.below hb1) (HH2.out.below hb1) G3.out H3.out (by omega) (by omega))
    clear hb1 HS1 rf sf
    go_wp2_with fail
    refine HS2.out.mono ?_
    rintro e w2 (⟨hlt2, _⟩ | ⟨hge, hb2, a1, c1, rfl, p1, p2, _⟩)
    · omega
    obtain ⟨r0', r1', rf, rlt'⟩ := HF.out.a.below (HB1.out.trans (hb2.mono HB1.out.size))
    obtain ⟨s0', s1', sf, slt'⟩ := HF.out.b.below (HB1.out.trans (hb2.mono HB1.out.size))
    have HB2 := Lib.hid (HB1.out.trans (hb2.mono HB1.out.size))
    have hM := r2Make n2 c1 p1 p2 (lval_limbs _) (by have := limbs_len_mono (Nat.sub_le y x); omega)
    rw [sgn_add_lt HN.out hlt] at hM
    have HM := Lib.hid hM
    clear hM hb2 HS2 p2 HB1 r0 r1 s0 s1 rlt slt rf sf
    go_wp2_with fail
    refine HM.out.mono ?_
    rintro e w3 ⟨v3, rfl, ⟨a3, c3, rfl, q1, q2⟩, q5⟩
    have hS3 := HB2.out.trans (q5.mono HB2.out.size)
    obtain ⟨t0, t1, tf, tlt⟩ := HF.out.c.below hS3
    have HI := Lib.hid (IntC.store (HF.out.nc.below hS3 HF.out.c.lt) q1 q2)
    have HBf := Lib.hid (below_store2 (p := .bool (decide (sgn n1 x + sgn n2 y < 0))) (q := .slice a3 (limbs (sgn n1 x + sgn n2 y).natAbs).length c3) (HF.out.bl.trans (hS3.mono (by have := HF.out.a.lt; omega))) (show w.heap.size ≤ w.heap.size + 1 + 1 by omega))
    clear q2 q5 hS3 HM
    generalize decide (sgn n1 x + sgn n2 y < 0) = B at *
    generalize (limbs (sgn n1 x + sgn n2 y).natAbs).length = L at *
    go_wp2
    exact bodyPost_ret (v := .agg #[.bool B, .slice a3 L c3]) (by simp [results, Try.results88, go_sem, t0, t1]) rfl ⟨_, rfl, HI.out, HBf.out⟩
  · obtain ⟨r0, r1, rf, rlt⟩ := HF.out.a.below hb1
    obtain ⟨s0, s1, sf, slt⟩ := HF.out.b.below hb1
    have HB2 := Lib.hid hb1
    have hM := r2Make n1 c1 p1 p2 (lval_limbs _) (by have := limbs_len_mono (Nat.sub_le x y); omega)
    rw [sgn_add_ge HN.out hge] at hM
    have HM := Lib.hid hM
    clear hM hb1 HS1 p2 rf sf
    go_wp2_with fail
    refine HM.out.mono ?_
    rintro e w3 ⟨v3, rfl, ⟨a3, c3, rfl, q1, q2⟩, q5⟩
    have hS3 := HB2.out.trans (q5.mono HB2.out.size)
    obtain ⟨t0, t1, tf, tlt⟩ := HF.out.c.below hS3
    have HI := Lib.hid (IntC.store (HF.out.nc.below hS3 HF.out.c.lt) q1 q2)
    have HBf := Lib.hid (below_store2 (p := .bool (decide (sgn n1 x + sgn n2 y < 0))) (q := .slice a3 (limbs (sgn n1 x + sgn n2 y).natAbs).length c3) (HF.out.bl.trans (hS3.mono (by have := HF.out.a.lt; omega))) (show w.heap.size ≤ w.heap.size + 1 + 1 by omega))
    clear q2 q5 hS3 HM
    generalize decide (sgn n1 x + sgn n2 y < 0) = B at *
    generalize (limbs (sgn n1 x + sgn n2 y).natAbs).length = L at *
    go_wp2
    exact bodyPost_ret (v := .agg #[.bool B, .slice a3 L c3]) (by simp [results, Try.results88, go_sem, t0, t1]) rfl ⟨_, rfl, HI.out, HBf.out⟩

theorem r2Add {w : World} {v u : Value} {n1 n2 : Bool} {x y k1 k2 : Nat} (hv : IntV w v n1 x k1) (hu : IntV w u n2 y k2) (hr1 : k1 ≤ 4194304) (hr2 : k2 ≤ 4194304) :
    Calls Try.prog 88 #[v, u] w (RetZ w (sgn n1 x + sgn n2 y)) := by
  by_cases hn : n1 = n2
  · subst hn; exact r2Add_same hv hu hr1 hr2
  · exact r2Add_diff hv hu hn hr1 hr2

end Go.Proofs.Ytfmhedfiklidhaa

/-
  The reference's Add of layer 3: by contract.
-/
namespace Go.Proofs.Ytfmhedfiklidhaa
open Go.RowKit

/-- A world behind W0, from block B on. -/
structure Fro (B : Nat) (W0 w : World) : Prop where
  base : B ≤ w.heap.size
  be : Below B W0 w
theorem Fro.start {B : Nat} {W0 : World} (h : B ≤ W0.heap.size) : Fro B W0 W0.drew := ⟨h, (Below.refl _ _).drew⟩
theorem Fro.alloc {B : Nat} {W0 w : World} (h : Fro B W0 w) (o : Obj) : Fro B W0 (w.alloc o) := ⟨by have := h.base; simp; omega, h.be.alloc h.base o⟩

/-- What the operations leave that make a boxed integer: a sign, and a product. -/
def prG (ga gb : Nat) (neg : Bool) (vn vd : Value) (N dn kd B : Nat) (i : Nat) (v : Value) (w : World) : Prop :=
  match i with
  | 0 => v = .pointer (some ⟨ga, 0, none⟩)
  | 1 => v = .bool neg
  | 2 => v = .pointer (some ⟨ga, 1, none⟩)
  | 3 => v = vn
  | 4 => v = .pointer (some ⟨gb, 2, none⟩)
  | 5 => v = vd
  | 6 => ∃ a c l, v = .slice a l.length c ∧ l.length ≤ c ∧ Hid (U32s w a l) ∧ Hid (lval l = dn) ∧ l.length ≤ kd
  | 7 => ∃ a c, v = .slice a (limbs N).length c ∧ (limbs N).length ≤ c ∧ Hid (U32s w a (limbs N))
  | 8 => ∃ a c, v = .agg #[.bool neg, .slice a (limbs N).length c] ∧ (limbs N).length ≤ c ∧ Hid (U32s w a (limbs N))
  | 9 => ∃ g, B ≤ g ∧ v = .pointer (some ⟨g, 0, none⟩) ∧ Box2 w g (.bool false) (.slice none 0 0) ∧ NoInt w g
  | _ => True
theorem prG_below {ga gb : Nat} {neg : Bool} {vn vd : Value} {N dn kd B i : Nat} {v : Value} {w w' : World} (h : prG ga gb neg vn vd N dn kd B i v w) (hb : Below w.heap.size w w') : prG ga gb neg vn vd N dn kd B i v w' := by
  match i, h with
  | 0, h => exact h
  | 1, h => exact h
  | 2, h => exact h
  | 3, h => exact h
  | 4, h => exact h
  | 5, h => exact h
  | 6, ⟨a, c, l, h1, h2, h3, h4, h5⟩ => exact ⟨a, c, l, h1, h2, h3.out.below hb, h4, h5⟩
  | 7, ⟨a, c, h1, h2, h3⟩ => exact ⟨a, c, h1, h2, h3.out.below hb⟩
  | 8, ⟨a, c, h1, h2, h3⟩ => exact ⟨a, c, h1, h2, h3.out.below hb⟩
  | 9, ⟨g, h1, h2, h3, h4⟩ => exact ⟨g, h1, h2, h3.below hb, h4.below hb h3.lt⟩
  | _ + 10, _ => trivial

theorem TwoR.below {w W W' : World} {g : Nat} {p q r s t u : Value} (h : TwoR w W g p q r s t u) (hb : Below W.heap.size W W') : TwoR w W' g p q r s t u :=
  ⟨h.a.below hb, h.b.below hb, h.c.below hb, h.nc.below hb h.c.lt, h.bl.trans (hb.mono (by have := h.a.lt; omega))⟩
theorem Box2.store {w : World} {g : Nat} {p q : Value} (h : Box2 w g p q) (p' q' : Value) : Box2 ((w.setCell ⟨g, 0, none⟩ p').setCell ⟨g, 1, none⟩ q') g p' q' := by
  refine ⟨?_, ?_, ?_, ?_⟩
  · rw [World.cell?_setCell_other _ _ _ _ (by intro e; cases e)]
    exact World.cell?_setCell_same _ _ _ h.c0
  · refine World.cell?_setCell_same _ _ _ (u := q) ?_
    rw [World.cell?_setCell_other _ _ _ _ (by intro e; cases e)]
    exact h.c1
  · intro o
    simp [World.frozen?_setCell, h.free]
  · simpa using h.lt
theorem U32s.store2 {w : World} {g : Nat} {a : Option Addr} {l : List Nat} (h : U32s w a l) (hN : NoInt w g) (b : Bool) (x : Option Addr) (n c : Nat) : U32s ((w.setCell ⟨g, 0, none⟩ (.bool b)).setCell ⟨g, 1, none⟩ (.slice x n c)) a l :=
  (h.setCell hN _ _).setCell (hN.setCell _ _ (by simp)) _ _

theorem sgn_of_int (z : Int) : sgn (decide (z < 0)) z.natAbs = z := by
  unfold sgn
  by_cases h : z < 0
  · rw [decide_eq_true h]; simp; omega
  · rw [decide_eq_false h]; simp; omega
theorem underLen (d : List Nat) (h : Lim d) : (limbs (underN d)).length ≤ d.length + 1 := by
  unfold underN
  split
  · rw [limbs_one]; simp
  · have := limbs_len_of_lval h; omega
theorem S4_keep {w W w1 : World} {gs g : Nat} {p q a b c d e f : Value} (h : Box2 W gs p q) (hF : TwoR w W g a b c d e f) (hb : Below W.heap.size W w1) :
    w1.cell? ⟨gs, 0, none⟩ = some p ∧ w1.cell? ⟨gs, 1, none⟩ = some q ∧ w1.cell? ⟨g, 2, none⟩ = some c ∧ w1.cell? ⟨g + 1, 2, none⟩ = some f :=
  ⟨(hb.cell h.lt).trans h.c0, (hb.cell h.lt).trans h.c1, (hb.cell hF.a.lt).trans hF.a.c2, (hb.cell hF.b.lt).trans hF.b.c2⟩
theorem S4_store {w W w1 : World} {gs g : Nat} {p q a b c d e f : Value} (h : Box2 W gs p q) (hF : TwoR w W g a b c d e f) (hb : Below W.heap.size W w1) (hne : g + 1 + 1 < gs) (x y z : Value) :
    (((w1.setCell ⟨g + 1 + 1, 0, none⟩ x).setCell ⟨g + 1 + 1, 1, none⟩ y).setCell ⟨g + 1 + 1, 2, none⟩ z).cell? ⟨gs, 0, none⟩ = some p ∧ (((w1.setCell ⟨g + 1 + 1, 0, none⟩ x).setCell ⟨g + 1 + 1, 1, none⟩ y).setCell ⟨g + 1 + 1, 2, none⟩ z).cell? ⟨gs, 1, none⟩ = some q ∧
    (((w1.setCell ⟨g + 1 + 1, 0, none⟩ x).setCell ⟨g + 1 + 1, 1, none⟩ y).setCell ⟨g + 1 + 1, 2, none⟩ z).cell? ⟨g, 2, none⟩ = some c ∧ (((w1.setCell ⟨g + 1 + 1, 0, none⟩ x).setCell ⟨g + 1 + 1, 1, none⟩ y).setCell ⟨g + 1 + 1, 2, none⟩ z).cell? ⟨g + 1, 2, none⟩ = some f := by
  obtain ⟨h1, h2, h3, h4⟩ := S4_keep h hF hb
  refine ⟨?_, ?_, ?_, ?_⟩ <;> rw [far2 (by omega), far2 (by omega), far2 (by omega)] <;> assumption

set_option maxRecDepth 100000 in
set_option maxHeartbeats 6400000 in
theorem r3Add {w : World} {v u : Value} {x y : RatL} (hv : RatV w v x) (hu : RatV w u y) (hx : RatLe x 524286) (hy : RatLe y 524286) :
    Calls Try.prog 50 #[v, u] w (RetR w (ratL (ratOf x + ratOf y))) := by
  obtain ⟨an, ad, cn, cd, rfl, a2, a3, a4, a5⟩ := hv.ex
  obtain ⟨bn, bd, dn, dd, rfl, b2, b3, b4, b5⟩ := hu.ex
  obtain ⟨hx1, hx2⟩ := hx
  obtain ⟨hy1, hy2⟩ := hy
  have hl1 := a4.len
  have hl2 := a5.len
  have hl3 := b4.len
  have hl4 := b5.len
  have A4 := Lib.hid a4
  have A5 := Lib.hid a5
  have B4 := Lib.hid b4
  have B5 := Lib.hid b5
  have HNUMx := Lib.hid a4.lim
  have HDENx := Lib.hid a5.lim
  have HNUMy := Lib.hid b4.lim
  have HDENy := Lib.hid b5.lim
  clear hv hu a4 a5 b4 b5
  go_enter Try.func50, Try.ntmps50
  go_upto_region 1 with fail
  have hF := TwoR.mk' w (.bool x.neg) (.slice an x.num.length cn) (.slice ad x.den.length cd) (.bool y.neg) (.slice bn y.num.length dn) (.slice bd y.den.length dd) 25
  generalize ((w.alloc (.cells #[.bool x.neg, .slice an x.num.length cn, .slice ad x.den.length cd] 25)).alloc (.cells #[.bool y.neg, .slice bn y.num.length dn, .slice bd y.den.length dd] 25)).alloc (.cells #[.bool false, .slice none 0 0, .slice none 0 0] 25) = W at *
  have HF := Lib.hid hF
  have HA4 := Lib.hid (A4.out.below hF.bl)
  have HA5 := Lib.hid (A5.out.below hF.bl)
  have HB4 := Lib.hid (B4.out.below hF.bl)
  have HB5 := Lib.hid (B5.out.below hF.bl)
  clear hF A4 A5 B4 B5
  refine wp_region_slots_lit (by kernel_rfl) (by kernel_rfl) (by kernel_rfl) (by kernel_rfl) (by kernel_rfl) (Fro W.heap.size W) (fun w w' => Below w.heap.size w w') (prG (w.heap.size) (w.heap.size + 1) x.neg (.slice an x.num.length cn) (.slice bd y.den.length dd) (lval x.num * underN y.den) (underN y.den) (y.den.length + 1) W.heap.size) (fun i v w w' h hb => prG_below h hb) (Fro.start (Nat.le_refl _)) ?_ ?_
  · intro ops
    simp only [List.dropLast, Shows]
    refine ⟨?_, ?_, ?_, ?_, ?_, ?_, ?_, ?_, ?_, ?_, trivial⟩
    · intro g V hR hL
      have hB := hR.base
      obtain ⟨q0, q1, q2, q3, q4, q5⟩ := S33_keep HF.out.a HF.out.b HF.out.a.lt HF.out.b.lt hR.be
      simp only [Laid, Region.binds, forall_const, Bool.false_eq_true, false_implies, prG] at hL
      simp [fillFrom, Act.put]
      clear hL
      have HR := Lib.hid hR
      clear hR
      go_wp2
      exact ⟨_, rfl, HR.out, Below.refl _ _, rfl⟩
    · intro g V hR hL
      have hB := hR.base
      obtain ⟨q0, q1, q2, q3, q4, q5⟩ := S33_keep HF.out.a HF.out.b HF.out.a.lt HF.out.b.lt hR.be
      simp only [Laid, Region.binds, forall_const, Bool.false_eq_true, false_implies, prG] at hL
      simp [fillFrom, Act.put]
      generalize g 0 = y0 at hL ⊢
      obtain ⟨rfl, _⟩ := hL
      have HR := Lib.hid hR
      clear hR
      go_wp2
      exact ⟨_, rfl, HR.out, Below.refl _ _, rfl⟩
    · intro g V hR hL
      have hB := hR.base
      obtain ⟨q0, q1, q2, q3, q4, q5⟩ := S33_keep HF.out.a HF.out.b HF.out.a.lt HF.out.b.lt hR.be
      simp only [Laid, Region.binds, forall_const, Bool.false_eq_true, false_implies, prG] at hL
      simp [fillFrom, Act.put]
      clear hL
      have HR := Lib.hid hR
      clear hR
      go_wp2
      exact ⟨_, rfl, HR.out, Below.refl _ _, rfl⟩
    · intro g V hR hL
      have hB := hR.base
      obtain ⟨q0, q1, q2, q3, q4, q5⟩ := S33_keep HF.out.a HF.out.b HF.out.a.lt HF.out.b.lt hR.be
      simp only [Laid, Region.binds, forall_const, Bool.false_eq_true, false_implies, prG] at hL
      simp [fillFrom, Act.put]
      generalize g 2 = y2 at hL ⊢
      obtain ⟨rfl, _⟩ := hL
      have HR := Lib.hid hR
      clear hR
      go_wp2
      exact ⟨_, rfl, HR.out, Below.refl _ _, rfl⟩
    · intro g V hR hL
      have hB := hR.base
      obtain ⟨q0, q1, q2, q3, q4, q5⟩ := S33_keep HF.out.a HF.out.b HF.out.a.lt HF.out.b.lt hR.be
      simp only [Laid, Region.binds, forall_const, Bool.false_eq_true, false_implies, prG] at hL
      simp [fillFrom, Act.put]
      clear hL
      have HR := Lib.hid hR
      clear hR
      go_wp2
      exact ⟨_, rfl, HR.out, Below.refl _ _, rfl⟩
    · intro g V hR hL
      have hB := hR.base
      obtain ⟨q0, q1, q2, q3, q4, q5⟩ := S33_keep HF.out.a HF.out.b HF.out.a.lt HF.out.b.lt hR.be
      simp only [Laid, Region.binds, forall_const, Bool.false_eq_true, false_implies, prG] at hL
      simp [fillFrom, Act.put]
      generalize g 4 = y4 at hL ⊢
      obtain ⟨rfl, _⟩ := hL
      have HR := Lib.hid hR
      clear hR
      go_wp2
      exact ⟨_, rfl, HR.out, Below.refl _ _, rfl⟩
    · intro g V hR hL
      have hB := hR.base
      obtain ⟨q0, q1, q2, q3, q4, q5⟩ := S33_keep HF.out.a HF.out.b HF.out.a.lt HF.out.b.lt hR.be
      simp only [Laid, Region.binds, forall_const, Bool.false_eq_true, false_implies, prG] at hL
      simp [fillFrom, Act.put]
      generalize g 5 = y5 at hL ⊢
      obtain ⟨rfl, _⟩ := hL
      have HR := Lib.hid hR
      clear hR
      go_wp2_with fail
      refine (r3one dd b3 (HB5.out.below HR.out.be) (by omega)).mono ?_
      rintro e w1 ⟨a1, c1, l1, rfl, p1, p2, p3, p4, p5⟩
      have HP2 := Lib.hid p2
      have HP3 := Lib.hid p3
      have HP5 := Lib.hid p5
      clear p2 p3 p5 q0 q1 q2 q3 q4 q5
      go_wp2
      exact ⟨_, rfl, ⟨Nat.le_trans hB HP5.out.size, HR.out.be.trans (HP5.out.mono hB)⟩, HP5.out, a1, c1, l1, rfl, p1, HP2, HP3, p4⟩
    · intro g V hR hL
      have hB := hR.base
      obtain ⟨q0, q1, q2, q3, q4, q5⟩ := S33_keep HF.out.a HF.out.b HF.out.a.lt HF.out.b.lt hR.be
      simp only [Laid, Region.binds, forall_const, Bool.false_eq_true, false_implies, prG] at hL
      simp [fillFrom, Act.put]
      generalize g 3 = y3 at hL ⊢
      generalize g 6 = y6 at hL ⊢
      obtain ⟨rfl, ⟨a1, c1, l1, rfl, p1, HP2, HP3, p4⟩, _, _⟩ := hL
      have HR := Lib.hid hR
      clear hR
      go_wp2_with fail
      refine (r1Mul cn c1 (HA4.out.below HR.out.be) HP2.out rfl HP3.out (by omega)).mono ?_
      rintro e w1 ⟨a2, c2, rfl, g1, g2, g3, _⟩
      have HG2 := Lib.hid g2
      have HG3 := Lib.hid g3
      clear g2 g3 q0 q1 q2 q3 q4 q5
      go_wp2
      exact ⟨_, rfl, ⟨Nat.le_trans hB HG3.out.size, HR.out.be.trans (HG3.out.mono hB)⟩, HG3.out, a2, c2, rfl, g1, HG2⟩
    · intro g V hR hL
      have hB := hR.base
      obtain ⟨q0, q1, q2, q3, q4, q5⟩ := S33_keep HF.out.a HF.out.b HF.out.a.lt HF.out.b.lt hR.be
      simp only [Laid, Region.binds, forall_const, Bool.false_eq_true, false_implies, prG] at hL
      simp [fillFrom, Act.put]
      generalize g 1 = y1 at hL ⊢
      generalize g 7 = y7 at hL ⊢
      obtain ⟨rfl, ⟨a2, c2, rfl, g1, HG2⟩, _⟩ := hL
      have HR := Lib.hid hR
      clear hR
      go_wp2
      exact ⟨_, rfl, HR.out, Below.refl _ _, a2, c2, rfl, g1, HG2⟩
    · intro g V hR hL
      have hB := hR.base
      obtain ⟨q0, q1, q2, q3, q4, q5⟩ := S33_keep HF.out.a HF.out.b HF.out.a.lt HF.out.b.lt hR.be
      simp only [Laid, Region.binds, forall_const, Bool.false_eq_true, false_implies, prG] at hL
      simp [fillFrom, Act.put]
      clear hL
      have HR := Lib.hid hR
      clear hR
      go_wp2
      exact ⟨_, rfl, HR.out.alloc _, (Below.refl V.heap.size V).alloc (Nat.le_refl _) _, V.heap.size, hB, rfl, Box2.alloc _ _ _ _, NoInt.alloc V _ _ (by simp)⟩
  intro ops g W1 hR hL
  simp only [List.dropLast, List.getLastD_cons, List.getLastD_nil, fillFrom, Act.put, List.length_cons, List.length_nil, Nat.reduceAdd, LaidAll] at hL ⊢
  have hB1 := hR.base
  have HV := hL.1.2
  have HP := hL.2
  simp only [prG] at HV HP
  clear hL
  generalize g 8 = yv at HV ⊢
  generalize g 9 = yp at HP ⊢
  obtain ⟨ak1, ck1, rfl, g11, HG21⟩ := HV
  obtain ⟨gp1, hgp1, rfl, hbx, hno⟩ := HP
  have HBX1 := Lib.hid hbx
  have HNO1 := Lib.hid hno
  obtain ⟨e0, e1, ef, elt⟩ := hbx
  have HR1 := Lib.hid hR
  clear hR hno
  go_upto_region 2 with fail
  have hbw := below_store2 (p := .bool x.neg) (q := .slice ak1 (limbs (lval x.num * underN y.den)).length ck1) HR1.out.be hgp1
  have HBX1' := HBX1.out.store (.bool x.neg) (.slice ak1 (limbs (lval x.num * underN y.den)).length ck1)
  have hu1 := HG21.out.store2 HNO1.out x.neg ak1 (limbs (lval x.num * underN y.den)).length ck1
  generalize (W1.setCell ⟨gp1, 0, none⟩ (.bool x.neg)).setCell ⟨gp1, 1, none⟩ (.slice ak1 (limbs (lval x.num * underN y.den)).length ck1) = W2 at *
  have HX2 := Lib.hid HBX1'
  have HU2 := Lib.hid hu1
  have HF2 := Lib.hid (HF.out.below hbw)
  have HA52 := Lib.hid (HA5.out.below hbw)
  have HB42 := Lib.hid (HB4.out.below hbw)
  have HB52 := Lib.hid (HB5.out.below hbw)
  clear hbw HBX1' hu1 HBX1 HNO1 HR1 HG21 e0 e1 ef elt HA5 HB4 HB5 HA4 HF hgp1 hB1
  refine wp_region_slots_lit (by kernel_rfl) (by kernel_rfl) (by kernel_rfl) (by kernel_rfl) (by kernel_rfl) (Fro W2.heap.size W2) (fun w w' => Below w.heap.size w w') (prG (w.heap.size + 1) (w.heap.size) y.neg (.slice bn y.num.length dn) (.slice ad x.den.length cd) (lval y.num * underN x.den) (underN x.den) (x.den.length + 1) W2.heap.size) (fun i v w w' h hb => prG_below h hb) (Fro.start (Nat.le_refl _)) ?_ ?_
  · intro ops
    simp only [List.dropLast, Shows]
    refine ⟨?_, ?_, ?_, ?_, ?_, ?_, ?_, ?_, ?_, ?_, trivial⟩
    · intro g V hR hL
      have hB := hR.base
      obtain ⟨q0, q1, q2, q3, q4, q5⟩ := S33_keep HF2.out.a HF2.out.b HF2.out.a.lt HF2.out.b.lt hR.be
      simp only [Laid, Region.binds, forall_const, Bool.false_eq_true, false_implies, prG] at hL
      simp [fillFrom, Act.put]
      clear hL
      have HR := Lib.hid hR
      clear hR
      go_wp2
      exact ⟨_, rfl, HR.out, Below.refl _ _, rfl⟩
    · intro g V hR hL
      have hB := hR.base
      obtain ⟨q0, q1, q2, q3, q4, q5⟩ := S33_keep HF2.out.a HF2.out.b HF2.out.a.lt HF2.out.b.lt hR.be
      simp only [Laid, Region.binds, forall_const, Bool.false_eq_true, false_implies, prG] at hL
      simp [fillFrom, Act.put]
      generalize g 0 = y0 at hL ⊢
      obtain ⟨rfl, _⟩ := hL
      have HR := Lib.hid hR
      clear hR
      go_wp2
      exact ⟨_, rfl, HR.out, Below.refl _ _, rfl⟩
    · intro g V hR hL
      have hB := hR.base
      obtain ⟨q0, q1, q2, q3, q4, q5⟩ := S33_keep HF2.out.a HF2.out.b HF2.out.a.lt HF2.out.b.lt hR.be
      simp only [Laid, Region.binds, forall_const, Bool.false_eq_true, false_implies, prG] at hL
      simp [fillFrom, Act.put]
      clear hL
      have HR := Lib.hid hR
      clear hR
      go_wp2
      exact ⟨_, rfl, HR.out, Below.refl _ _, rfl⟩
    · intro g V hR hL
      have hB := hR.base
      obtain ⟨q0, q1, q2, q3, q4, q5⟩ := S33_keep HF2.out.a HF2.out.b HF2.out.a.lt HF2.out.b.lt hR.be
      simp only [Laid, Region.binds, forall_const, Bool.false_eq_true, false_implies, prG] at hL
      simp [fillFrom, Act.put]
      generalize g 2 = y2 at hL ⊢
      obtain ⟨rfl, _⟩ := hL
      have HR := Lib.hid hR
      clear hR
      go_wp2
      exact ⟨_, rfl, HR.out, Below.refl _ _, rfl⟩
    · intro g V hR hL
      have hB := hR.base
      obtain ⟨q0, q1, q2, q3, q4, q5⟩ := S33_keep HF2.out.a HF2.out.b HF2.out.a.lt HF2.out.b.lt hR.be
      simp only [Laid, Region.binds, forall_const, Bool.false_eq_true, false_implies, prG] at hL
      simp [fillFrom, Act.put]
      clear hL
      have HR := Lib.hid hR
      clear hR
      go_wp2
      exact ⟨_, rfl, HR.out, Below.refl _ _, rfl⟩
    · intro g V hR hL
      have hB := hR.base
      obtain ⟨q0, q1, q2, q3, q4, q5⟩ := S33_keep HF2.out.a HF2.out.b HF2.out.a.lt HF2.out.b.lt hR.be
      simp only [Laid, Region.binds, forall_const, Bool.false_eq_true, false_implies, prG] at hL
      simp [fillFrom, Act.put]
      generalize g 4 = y4 at hL ⊢
      obtain ⟨rfl, _⟩ := hL
      have HR := Lib.hid hR
      clear hR
      go_wp2
      exact ⟨_, rfl, HR.out, Below.refl _ _, rfl⟩
    · intro g V hR hL
      have hB := hR.base
      obtain ⟨q0, q1, q2, q3, q4, q5⟩ := S33_keep HF2.out.a HF2.out.b HF2.out.a.lt HF2.out.b.lt hR.be
      simp only [Laid, Region.binds, forall_const, Bool.false_eq_true, false_implies, prG] at hL
      simp [fillFrom, Act.put]
      generalize g 5 = y5 at hL ⊢
      obtain ⟨rfl, _⟩ := hL
      have HR := Lib.hid hR
      clear hR
      go_wp2_with fail
      refine (r3one cd a3 (HA52.out.below HR.out.be) (by omega)).mono ?_
      rintro e w1 ⟨a1, c1, l1, rfl, p1, p2, p3, p4, p5⟩
      have HP2 := Lib.hid p2
      have HP3 := Lib.hid p3
      have HP5 := Lib.hid p5
      clear p2 p3 p5 q0 q1 q2 q3 q4 q5
      go_wp2
      exact ⟨_, rfl, ⟨Nat.le_trans hB HP5.out.size, HR.out.be.trans (HP5.out.mono hB)⟩, HP5.out, a1, c1, l1, rfl, p1, HP2, HP3, p4⟩
    · intro g V hR hL
      have hB := hR.base
      obtain ⟨q0, q1, q2, q3, q4, q5⟩ := S33_keep HF2.out.a HF2.out.b HF2.out.a.lt HF2.out.b.lt hR.be
      simp only [Laid, Region.binds, forall_const, Bool.false_eq_true, false_implies, prG] at hL
      simp [fillFrom, Act.put]
      generalize g 3 = y3 at hL ⊢
      generalize g 6 = y6 at hL ⊢
      obtain ⟨rfl, ⟨a1, c1, l1, rfl, p1, HP2, HP3, p4⟩, _, _⟩ := hL
      have HR := Lib.hid hR
      clear hR
      go_wp2_with fail
      refine (r1Mul dn c1 (HB42.out.below HR.out.be) HP2.out rfl HP3.out (by omega)).mono ?_
      rintro e w1 ⟨a2, c2, rfl, g1, g2, g3, _⟩
      have HG2 := Lib.hid g2
      have HG3 := Lib.hid g3
      clear g2 g3 q0 q1 q2 q3 q4 q5
      go_wp2
      exact ⟨_, rfl, ⟨Nat.le_trans hB HG3.out.size, HR.out.be.trans (HG3.out.mono hB)⟩, HG3.out, a2, c2, rfl, g1, HG2⟩
    · intro g V hR hL
      have hB := hR.base
      obtain ⟨q0, q1, q2, q3, q4, q5⟩ := S33_keep HF2.out.a HF2.out.b HF2.out.a.lt HF2.out.b.lt hR.be
      simp only [Laid, Region.binds, forall_const, Bool.false_eq_true, false_implies, prG] at hL
      simp [fillFrom, Act.put]
      generalize g 1 = y1 at hL ⊢
      generalize g 7 = y7 at hL ⊢
      obtain ⟨rfl, ⟨a2, c2, rfl, g1, HG2⟩, _⟩ := hL
      have HR := Lib.hid hR
      clear hR
      go_wp2
      exact ⟨_, rfl, HR.out, Below.refl _ _, a2, c2, rfl, g1, HG2⟩
    · intro g V hR hL
      have hB := hR.base
      obtain ⟨q0, q1, q2, q3, q4, q5⟩ := S33_keep HF2.out.a HF2.out.b HF2.out.a.lt HF2.out.b.lt hR.be
      simp only [Laid, Region.binds, forall_const, Bool.false_eq_true, false_implies, prG] at hL
      simp [fillFrom, Act.put]
      clear hL
      have HR := Lib.hid hR
      clear hR
      go_wp2
      exact ⟨_, rfl, HR.out.alloc _, (Below.refl V.heap.size V).alloc (Nat.le_refl _) _, V.heap.size, hB, rfl, Box2.alloc _ _ _ _, NoInt.alloc V _ _ (by simp)⟩
  intro ops g W3 hR hL
  simp only [List.dropLast, List.getLastD_cons, List.getLastD_nil, fillFrom, Act.put, List.length_cons, List.length_nil, Nat.reduceAdd, LaidAll] at hL ⊢
  have hB2 := hR.base
  have HV := hL.1.2
  have HP := hL.2
  simp only [prG] at HV HP
  clear hL
  generalize g 8 = yv at HV ⊢
  generalize g 9 = yp at HP ⊢
  obtain ⟨ak2, ck2, rfl, g12, HG22⟩ := HV
  obtain ⟨gp2, hgp2, rfl, hbx, hno⟩ := HP
  have HBX2 := Lib.hid hbx
  have HNO2 := Lib.hid hno
  obtain ⟨e0, e1, ef, elt⟩ := hbx
  have HR2 := Lib.hid hR
  clear hR hno
  go_upto_region 3 with fail
  have hbw := below_store2 (p := .bool y.neg) (q := .slice ak2 (limbs (lval y.num * underN x.den)).length ck2) HR2.out.be hgp2
  have hb2 := HBX2.out.store (.bool y.neg) (.slice ak2 (limbs (lval y.num * underN x.den)).length ck2)
  have hu2 := HG22.out.store2 HNO2.out y.neg ak2 (limbs (lval y.num * underN x.den)).length ck2
  generalize (W3.setCell ⟨gp2, 0, none⟩ (.bool y.neg)).setCell ⟨gp2, 1, none⟩ (.slice ak2 (limbs (lval y.num * underN x.den)).length ck2) = W4 at *
  obtain ⟨x0, x1, _, xlt⟩ := HX2.out.below hbw
  obtain ⟨y0, y1, _, ylt⟩ := hb2
  have HF4 := Lib.hid (HF2.out.below hbw)
  have HA54 := Lib.hid (HA52.out.below hbw)
  have HB54 := Lib.hid (HB52.out.below hbw)
  have hi1 : IntV W4 (.agg #[.bool x.neg, .slice ak1 (limbs (lval x.num * underN y.den)).length ck1]) x.neg (lval x.num * underN y.den) (limbs (lval x.num * underN y.den)).length := ⟨ak1, ck1, _, rfl, g11, HU2.out.below hbw, lval_limbs _, Nat.le_refl _⟩
  have hi2 : IntV W4 (.agg #[.bool y.neg, .slice ak2 (limbs (lval y.num * underN x.den)).length ck2]) y.neg (lval y.num * underN x.den) (limbs (lval y.num * underN x.den)).length := ⟨ak2, ck2, _, rfl, g12, hu2, lval_limbs _, Nat.le_refl _⟩
  have hl1 : (limbs (lval x.num * underN y.den)).length ≤ 1048575 := Nat.le_trans (mul_len rfl (lval_limbs _) (Nat.le_refl _) (Nat.le_refl _) HNUMx.out (lim_limbs _)) (by have := underLen y.den HDENy.out; omega)
  have hl2 : (limbs (lval y.num * underN x.den)).length ≤ 1048575 := Nat.le_trans (mul_len rfl (lval_limbs _) (Nat.le_refl _) (Nat.le_refl _) HNUMy.out (lim_limbs _)) (by have := underLen x.den HDENx.out; omega)
  have hAd := r2Add hi1 hi2 (by omega) (by omega)
  have HAd := Lib.hid hAd
  have HQ : Hid (ratL (ratOf x + ratOf y) = quotN (decide (sgn x.neg (lval x.num * underN y.den) + sgn y.neg (lval y.num * underN x.den) < 0)) (sgn x.neg (lval x.num * underN y.den) + sgn y.neg (lval y.num * underN x.den)).natAbs (underN x.den * underN y.den)) := by
    unfold Hid
    rw [quotN_ratL _ _ (Nat.mul_pos (underN_pos _) (underN_pos _)), sgn_of_int, addQ _ _ _ _ (underN_pos _) (underN_pos _)]
    rfl
  have hlz : (limbs (sgn x.neg (lval x.num * underN y.den) + sgn y.neg (lval y.num * underN x.den)).natAbs).length ≤ 1048576 := by
    refine Nat.le_trans (limbs_len_mono (b := lval (limbs (lval x.num * underN y.den)) + lval (limbs (lval y.num * underN x.den))) ?_) (add_len (lim_limbs _) (lim_limbs _) hl1 hl2)
    rw [lval_limbs, lval_limbs]
    generalize lval x.num * underN y.den = p
    generalize lval y.num * underN x.den = q
    cases x.neg <;> cases y.neg <;> simp [sgn] <;> omega
  generalize sgn x.neg (lval x.num * underN y.den) + sgn y.neg (lval y.num * underN x.den) = z at *
  clear hbw hu2 HX2 HU2 HF2 HA52 HB42 HB52 HBX2 HNO2 HR2 HG22 e0 e1 ef elt hi1 hi2 hl1 hl2 hAd hgp2 hB2
  go_wp2_with fail
  refine HAd.out.mono ?_
  rintro e W5 ⟨v5, rfl, ⟨a5', c5, rfl, f1, f2⟩, hb5⟩
  have F2 := Lib.hid f2
  have HF5 := Lib.hid (HF4.out.below hb5)
  have HA55 := Lib.hid (HA54.out.below hb5)
  have HB55 := Lib.hid (HB54.out.below hb5)
  clear f2 hb5 HAd HF4 HA54 HB54 x0 x1 xlt y0 y1 ylt
  generalize hzb : decide (z < 0) = zb at *
  generalize hzn : z.natAbs = zn at *
  clear hzb hzn
  go_upto_region 4 with fail
  have hal : Below W5.heap.size W5 (W5.alloc (.cells #[.bool zb, .slice a5' (limbs zn).length c5] 62)) := (Below.refl _ _).alloc (Nat.le_refl _) _
  have hbx := Box2.alloc W5 (.bool zb) (.slice a5' (limbs zn).length c5) 62
  have HGS := Lib.hid (HF5.out.c.lt)
  generalize hgs : W5.heap.size = gs at *
  have hgs5 : W5.heap.size ≤ gs := by omega
  generalize W5.alloc (.cells #[.bool zb, .slice a5' (limbs zn).length c5] 62) = W6 at *
  rw [← hgs] at hal
  have HF6 := Lib.hid (HF5.out.below hal)
  have HA56 := Lib.hid (HA55.out.below hal)
  have HB56 := Lib.hid (HB55.out.below hal)
  have F26 := Lib.hid (F2.out.below hal)
  have HS6 := Lib.hid hbx
  have xbl : Below W6.heap.size W6 W6.drew := (Below.refl _ _).drew
  have tok2 : True := trivial
  have HDp := Lib.hid (Nat.mul_pos (underN_pos x.den) (underN_pos y.den))
  clear hal hbx hgs hgs5 HF5 HA55 HB55 F2
  go_region_held3 (fun w' => w'.cell? ⟨gs, 0, none⟩ = some (.bool zb) ∧ w'.cell? ⟨gs, 1, none⟩ = some (.slice a5' (limbs zn).length c5) ∧ w'.cell? ⟨w.heap.size, 2, none⟩ = some (.slice ad x.den.length cd) ∧ w'.cell? ⟨w.heap.size + 1, 2, none⟩ = some (.slice bd y.den.length dd))
    (first | exact S4_keep HS6.out HF6.out ‹Below W6.heap.size W6 _› | exact S4_store HS6.out HF6.out hS5 HGS.out _ _ _)
    (first
      | (go_at_call 49; have _t := tok2; clear tok2; have hS := ‹Below W6.heap.size W6 _›; refine (r3one cd a3 (HA56.out.below hS) (by omega)).mono ?_; rintro e w2 ⟨a2', c2, l2, rfl, p1, p2, p3, p4, p5⟩
         have hS2 := hS.trans (p5.mono hS.size); have P2 := Lib.hid p2; have P3 := Lib.hid p3; clear p2 p3)
      | (go_at_call 49; have hS := ‹Below W6.heap.size W6 _›; refine (r3one dd b3 (HB56.out.below hS) (by omega)).mono ?_; rintro e w3 ⟨a3', c3, l3, rfl, q1, q2, q3, q4, q5⟩
         have hS3 := hS.trans (q5.mono hS.size); have P2b := Lib.hid (P2.out.below q5); have Q2 := Lib.hid q2; have Q3 := Lib.hid q3; clear q2 q3)
      | (go_at_call 34; have hS := ‹Below W6.heap.size W6 _›; refine (r1Mul c2 c3 P2b.out Q2.out P3.out Q3.out (by omega)).mono ?_; rintro e w4 ⟨a4, c4, rfl, t1, t2, t3, _⟩
         have hS4 := hS.trans (t3.mono hS.size); have T2 := Lib.hid t2; clear t2
         have hdl : (limbs (underN x.den * underN y.den)).length ≤ 2097152 := Nat.le_trans (mul_len P3.out Q3.out p4 q4 P2b.out.lim Q2.out.lim) (by omega))
      | (go_at_call 48; have hS := ‹Below W6.heap.size W6 _›; refine (r3quot zb c5 c4 f1 t1 (F26.out.below hS) T2.out (lval_limbs _) (lval_limbs _) (by omega) hdl HDp.out).mono ?_
         rintro e w5 ⟨v5, rfl, ⟨bn', bd', m1, m2, rfl, k3, k4, k5, k6⟩, k2⟩
         have hS5 := hS.trans (k2.mono hS.size)
         obtain ⟨r0, r1, r2, rf, rlt⟩ := HF6.out.c.below hS5
         have hN5 := Lib.hid (HF6.out.nc.below hS5 HF6.out.c.lt)
         have K5 := Lib.hid k5
         have K6 := Lib.hid k6
         have hB5 := Lib.hid (HF6.out.bl.trans (hS5.mono (by have := HF6.out.a.lt; omega)))))
  generalize quotN zb zn (underN x.den * underN y.den) = R at *
  go_wp2
  exact bodyPost_ret (v := .agg #[.bool R.neg, .slice bn' R.num.length m1, .slice bd' R.den.length m2]) (by simp [results, Try.results50, go_sem, r0, r1, r2]) rfl ⟨_, rfl, by rw [HQ.out]; exact RatV.store hN5.out k3 k4 K5.out K6.out, below_store3 hB5.out (by omega) _ _ _⟩

end Go.Proofs.Ytfmhedfiklidhaa

/-
  The reference's Neg, Sub, Sign, Cmp of layer 3: by contract.
-/
namespace Go.Proofs.Ytfmhedfiklidhaa
open Go.RowKit

/-- A rational boxed, and a result's place. -/
structure OneR (w W : World) (g : Nat) (p q r : Value) : Prop where
  a : Box3 W g p q r
  c : Box3 W (g + 1) (.bool false) (.slice none 0 0) (.slice none 0 0)
  nc : NoInt W (g + 1)
  bl : Below g w W
theorem OneR.mk' (w : World) (p q r : Value) (T : Nat) : OneR w ((w.alloc (.cells #[p, q, r] T)).alloc (.cells #[.bool false, .slice none 0 0, .slice none 0 0] T)) w.heap.size p q r := by
  have step : ∀ (W : World) (o : Obj), Below W.heap.size W (W.alloc o) := fun W o => (Below.refl _ _).alloc (Nat.le_refl _) _
  have s1 := step w (.cells #[p, q, r] T)
  have s3 := step (w.alloc (.cells #[p, q, r] T)) (.cells #[.bool false, .slice none 0 0, .slice none 0 0] T)
  have b1 := Box3.alloc w p q r T
  have b3 := Box3.alloc (w.alloc (.cells #[p, q, r] T)) (.bool false) (.slice none 0 0) (.slice none 0 0) T
  have n3 := NoInt.alloc (w.alloc (.cells #[p, q, r] T)) #[.bool false, .slice none 0 0, .slice none 0 0] T (by simp)
  have b1' := b1.below s3
  have bl := s1.trans (s3.mono (by simp))
  simp only [World.size_alloc] at b3 n3
  exact ⟨b1', b3, n3, bl⟩

set_option maxRecDepth 100000 in
set_option maxHeartbeats 1600000 in
theorem r3Neg {w : World} {v : Value} {x : RatL} (hv : RatV w v x) (hx : RatLe x 1048576) :
    Calls Try.prog 51 #[v] w (RetR w (ratL (-ratOf x))) := by
  obtain ⟨an, ad, cn, cd, rfl, a2, a3, a4, a5⟩ := hv.ex
  have HQ : Hid (ratL (-ratOf x) = canonL ⟨!x.neg, x.num, x.den⟩) := by
    unfold Hid
    rw [canonL_ratL]
    congr 1
    exact (negQ _ _ _).symm
  have hl1 := a4.len
  have hl2 := a5.len
  have A4 := Lib.hid a4
  have A5 := Lib.hid a5
  have HX : Hid (RatLe ⟨!x.neg, x.num, x.den⟩ 1048576) := ⟨hx.num, hx.den⟩
  clear hv a4 a5 hx
  go_enter Try.func51, Try.ntmps51
  go_wp2_with fail
  have hF := OneR.mk' w (.bool (!x.neg)) (.slice an x.num.length cn) (.slice ad x.den.length cd) 25
  generalize (w.alloc (.cells #[.bool (!x.neg), .slice an x.num.length cn, .slice ad x.den.length cd] 25)).alloc (.cells #[.bool false, .slice none 0 0, .slice none 0 0] 25) = W at *
  have HF := Lib.hid hF
  have hC := r3Canon (x := ⟨!x.neg, x.num, x.den⟩) ⟨an, ad, cn, cd, rfl, a2, a3, A4.out.below hF.bl, A5.out.below hF.bl⟩ HX.out
  have HC := Lib.hid hC
  clear hF hC A4 A5
  refine HC.out.mono ?_
  rintro e w5 ⟨v5, rfl, ⟨bn', bd', m1, m2, rfl, k3, k4, k5, k6⟩, k2⟩
  obtain ⟨r0, r1, r2, rf, rlt⟩ := HF.out.c.below k2
  have hN5 := Lib.hid (HF.out.nc.below k2 HF.out.c.lt)
  have K5 := Lib.hid k5
  have K6 := Lib.hid k6
  have hB5 := Lib.hid (HF.out.bl.trans (k2.mono (by have := HF.out.a.lt; omega)))
  clear HC k5 k6 k2
  generalize canonL ⟨!x.neg, x.num, x.den⟩ = R at *
  go_wp2
  exact bodyPost_ret (v := .agg #[.bool R.neg, .slice bn' R.num.length m1, .slice bd' R.den.length m2]) (by simp [results, Try.results51, go_sem, r0, r1, r2]) rfl ⟨_, rfl, by rw [HQ.out]; exact RatV.store hN5.out k3 k4 K5.out K6.out, below_store3 hB5.out (by omega) _ _ _⟩

theorem ratL_le {x : RatL} {k : Nat} (hx : x.Lim) (h : RatLe x k) : RatLe (ratL (-ratOf x)) (k + 1) := (QLe.ratOf hx h).neg.ratL

set_option maxRecDepth 100000 in
set_option maxHeartbeats 3200000 in
theorem r3Sub {w : World} {v u : Value} {x y : RatL} (hv : RatV w v x) (hu : RatV w u y) (hx : RatLe x 524286) (hy : RatLe y 524285) :
    Calls Try.prog 20 #[v, u] w (RetR w (ratL (ratOf x - ratOf y))) := by
  have HVx := Lib.hid hv
  have HVy := Lib.hid hu
  have hny := ratL_le hu.lim hy
  obtain ⟨an, ad, cn, cd, rfl, a2, a3, a4, a5⟩ := hv.ex
  obtain ⟨bn, bd, dn, dd, rfl, b2, b3, b4, b5⟩ := hu.ex
  have HQ : Hid (ratL (ratOf x - ratOf y) = ratL (ratOf x + ratOf (ratL (-ratOf y)))) := by
    unfold Hid; rw [ratOf_ratL, Rat.sub_eq_add_neg]
  have HNy := Lib.hid hny
  have hl1 := a4.len
  have hl2 := a5.len
  have hl3 := b4.len
  have hl4 := b5.len
  have HX := Lib.hid hx
  have HY := Lib.hid (hy.mono (show 524285 ≤ 1048576 by omega))
  clear hv hu a4 a5 b4 b5 hx hy hny
  go_enter Try.func20, Try.ntmps20
  go_wp2_with fail
  have hF := TwoR.mk' w (.bool x.neg) (.slice an x.num.length cn) (.slice ad x.den.length cd) (.bool y.neg) (.slice bn y.num.length dn) (.slice bd y.den.length dd) 25
  generalize ((w.alloc (.cells #[.bool x.neg, .slice an x.num.length cn, .slice ad x.den.length cd] 25)).alloc (.cells #[.bool y.neg, .slice bn y.num.length dn, .slice bd y.den.length dd] 25)).alloc (.cells #[.bool false, .slice none 0 0, .slice none 0 0] 25) = W at *
  have HF := Lib.hid hF
  have HVX := Lib.hid (HVx.out.below hF.bl)
  have HVY := Lib.hid (HVy.out.below hF.bl)
  have xbl : Below W.heap.size W W.drew := (Below.refl _ _).drew
  clear hF HVx HVy
  go_region_held3 (fun w' => w'.cell? ⟨w.heap.size, 0, none⟩ = some (.bool x.neg) ∧ w'.cell? ⟨w.heap.size, 1, none⟩ = some (.slice an x.num.length cn) ∧ w'.cell? ⟨w.heap.size, 2, none⟩ = some (.slice ad x.den.length cd) ∧
      w'.cell? ⟨w.heap.size + 1, 0, none⟩ = some (.bool y.neg) ∧ w'.cell? ⟨w.heap.size + 1, 1, none⟩ = some (.slice bn y.num.length dn) ∧ w'.cell? ⟨w.heap.size + 1, 2, none⟩ = some (.slice bd y.den.length dd))
    (first | exact S33_keep HF.out.a HF.out.b HF.out.a.lt HF.out.b.lt ‹Below W.heap.size W _› | exact S33_keep (B := w.heap.size + 1 + 1) HF.out.a HF.out.b (Nat.lt_succ_of_lt (Nat.lt_succ_self _)) (Nat.lt_succ_self _) (below_store3 (hS5.mono (Nat.le_of_lt HF.out.c.lt)) (Nat.le_refl _) _ _ _))
    (first
      | (go_at_call 51; have hS := ‹Below W.heap.size W _›; refine (r3Neg (HVY.out.below hS) HY.out).mono ?_; rintro e w1 ⟨v1, rfl, g1, g2⟩
         have hS1 := hS.trans (g2.mono hS.size); have G1 := Lib.hid g1; clear g1)
      | (go_at_call 50; have hS := ‹Below W.heap.size W _›; refine (r3Add (HVX.out.below hS) G1.out HX.out HNy.out).mono ?_
         rintro e w5 ⟨v5, rfl, ⟨bn', bd', m1, m2, rfl, k3, k4, k5, k6⟩, k2⟩
         have hS5 := hS.trans (k2.mono hS.size)
         obtain ⟨r0, r1, r2, rf, rlt⟩ := HF.out.c.below hS5
         have hN5 := Lib.hid (HF.out.nc.below hS5 HF.out.c.lt)
         have K5 := Lib.hid k5
         have K6 := Lib.hid k6
         have hB5 := Lib.hid (HF.out.bl.trans (hS5.mono (by have := HF.out.a.lt; omega)))))
  generalize ratL (ratOf x + ratOf (ratL (-ratOf y))) = R at *
  go_wp2
  exact bodyPost_ret (v := .agg #[.bool R.neg, .slice bn' R.num.length m1, .slice bd' R.den.length m2]) (by simp [results, Try.results20, go_sem, r0, r1, r2]) rfl ⟨_, rfl, by rw [HQ.out]; exact RatV.store hN5.out k3 k4 K5.out K6.out, below_store3 hB5.out (by omega) _ _ _⟩

set_option maxRecDepth 100000 in
set_option maxHeartbeats 1600000 in
theorem r3Sign {w : World} {v : Value} {x : RatL} (hv : RatV w v x) (hx : x.num.length ≤ 17592186044416) :
    Calls Try.prog 53 #[v] w fun e w' => e = .returned (.int .i64 (signQ (ratOf x))) ∧ Below w.heap.size w w' := by
  obtain ⟨an, ad, cn, cd, rfl, a2, a3, a4, a5⟩ := hv.ex
  have hl1 := a4.len
  have hb : Below w.heap.size w (w.alloc (.cells #[.bool x.neg, .slice an x.num.length cn, .slice ad x.den.length cd] 25)) := (Below.refl _ _).alloc (Nat.le_refl _) _
  have hI : IntV (w.alloc (.cells #[.bool x.neg, .slice an x.num.length cn, .slice ad x.den.length cd] 25)) (.agg #[.bool x.neg, .slice an x.num.length cn]) x.neg (lval x.num) x.num.length := ⟨an, cn, _, rfl, a2, a4.below hb, rfl, Nat.le_refl _⟩
  have HS := Lib.hid (r2Sign hI hx)
  have HZ := Lib.hid (signZ_signQ x)
  have HB := Lib.hid hb
  clear hv a4 a5 hI hb
  go_enter Try.func53, Try.ntmps53
  go_wp2_with fail
  refine HS.out.mono ?_
  rintro e w1 ⟨rfl, hb1⟩
  have HB1 := Lib.hid (HB.out.trans (hb1.mono HB.out.size))
  clear HS hb1
  go_wp2
  go_ret
  exact ⟨ret_int HZ.out, HB1.out⟩

set_option maxRecDepth 100000 in
set_option maxHeartbeats 1600000 in
theorem r3Cmp {w : World} {v u : Value} {x y : RatL} (hv : RatV w v x) (hu : RatV w u y) (hx : RatLe x 524286) (hy : RatLe y 524285) :
    Calls Try.prog 23 #[v, u] w fun e w' => e = .returned (.int .i64 (cmpQ (ratOf x) (ratOf y))) ∧ Below w.heap.size w w' := by
  have hlen : RatLe (ratL (ratOf x - ratOf y)) 17592186044416 := (((QLe.ratOf hv.lim hx).sub (QLe.ratOf hu.lim hy)).mono (by omega)).ratL
  have HL := Lib.hid hlen.num
  have HVx := Lib.hid hv
  have HVy := Lib.hid hu
  obtain ⟨an, ad, cn, cd, rfl, a2, a3, a4, a5⟩ := hv.ex
  obtain ⟨bn, bd, dn, dd, rfl, b2, b3, b4, b5⟩ := hu.ex
  have hl1 := a4.len
  have hl2 := a5.len
  have hl3 := b4.len
  have hl4 := b5.len
  have hb : Below w.heap.size w ((w.alloc (.cells #[.bool x.neg, .slice an x.num.length cn, .slice ad x.den.length cd] 25)).alloc (.cells #[.bool y.neg, .slice bn y.num.length dn, .slice bd y.den.length dd] 25)) := ((Below.refl _ _).alloc (Nat.le_refl _) _).alloc (by simp) _
  have HS := Lib.hid (r3Sub (HVx.out.below hb) (HVy.out.below hb) hx hy)
  have HB := Lib.hid hb
  have HZ : Hid (signQ (ratOf (ratL (ratOf x - ratOf y))) = cmpQ (ratOf x) (ratOf y)) := by unfold Hid; rw [ratOf_ratL, signQ_sub]
  clear hv hu a4 a5 b4 b5 hx hy hb hlen HVx HVy
  go_enter Try.func23, Try.ntmps23
  go_wp2_with fail
  refine HS.out.mono ?_
  rintro e w1 ⟨v1, rfl, g1, hb1⟩
  have HSg := Lib.hid (r3Sign g1 HL.out)
  have HB1 := Lib.hid (HB.out.trans (hb1.mono HB.out.size))
  clear HS hb1 g1
  go_wp2_with fail
  refine HSg.out.mono ?_
  rintro e w2 ⟨rfl, hb2⟩
  have HB2 := Lib.hid (HB1.out.trans (hb2.mono HB1.out.size))
  clear HSg hb2
  go_wp2
  go_ret
  exact ⟨ret_int HZ.out, HB2.out⟩

end Go.Proofs.Ytfmhedfiklidhaa

/-
  The reference's Div, Of of layer 3: by contract.
-/
namespace Go.Proofs.Ytfmhedfiklidhaa
open Go.RowKit

theorem signQ_zero {q : Rat} : (signQ q = 0) ↔ q = 0 := by
  unfold signQ
  by_cases h1 : q < 0
  · rw [if_pos h1]; constructor
    · intro h; omega
    · intro h; subst h; exact absurd h1 (by decide)
  · rw [if_neg h1]
    by_cases h2 : 0 < q
    · rw [if_pos h2]; constructor
      · intro h; omega
      · intro h; subst h; exact absurd h2 (by decide)
    · rw [if_neg h2]
      exact ⟨fun _ => Rat.le_antisymm (Rat.not_lt.1 h2) (Rat.not_lt.1 h1), fun _ => rfl⟩
theorem ratOf_zero {x : RatL} (h : ratOf x ≠ 0) : 0 < lval x.num := by
  rcases Nat.eq_zero_or_pos (lval x.num) with h0 | h0
  · exfalso
    apply h
    unfold ratOf
    rw [h0]
    have : sgn x.neg 0 = 0 := by cases x.neg <;> rfl
    rw [this, Rat.zero_mkRat]
  · exact h0

def RetRE (w : World) (x : RatL) (c : Int) (e : Ending) (w' : World) : Prop := ∃ v, e = .returned (.tuple #[v, .int .i64 c]) ∧ RatV w' v x ∧ Below w.heap.size w w'

set_option maxRecDepth 100000 in
set_option maxHeartbeats 3200000 in
theorem r3Div {w : World} {v u : Value} {x y : RatL} (hv : RatV w v x) (hu : RatV w u y) (hx : RatLe x 1048575) (hy : RatLe y 1048575) (h0 : ratOf y ≠ 0) :
    Calls Try.prog 24 #[v, u] w (RetRE w (ratL (ratOf x / ratOf y)) 0) := by
  have HVy := Lib.hid hu
  obtain ⟨an, ad, cn, cd, rfl, a2, a3, a4, a5⟩ := hv.ex
  obtain ⟨bn, bd, dn, dd, rfl, b2, b3, b4, b5⟩ := hu.ex
  have hyp := ratOf_zero h0
  have hQ : Hid (ratL (ratOf x / ratOf y) = quotN (x.neg != y.neg) (lval x.num * underN y.den) (underN x.den * lval y.num)) := by
    unfold Hid
    rw [quotN_ratL _ _ (Nat.mul_pos (underN_pos _) hyp), divQ]; rfl
  obtain ⟨hx1, hx2⟩ := hx
  obtain ⟨hy1, hy2⟩ := hy
  have hl1 := a4.len
  have hl2 := a5.len
  have hl3 := b4.len
  have hl4 := b5.len
  have A4 := Lib.hid a4
  have A5 := Lib.hid a5
  have B4 := Lib.hid b4
  have B5 := Lib.hid b5
  have hs0 : (signQ (ratOf y) == 0) = false := by rw [beq_eq_false_iff_ne]; intro e; exact h0 (signQ_zero.1 e)
  have HDp := Lib.hid (Nat.mul_pos (underN_pos x.den) hyp)
  clear hv hu a4 a5 b4 b5 hyp h0
  go_enter Try.func24, Try.ntmps24
  go_wp2_with fail
  have hF := TwoR.mk' w (.bool x.neg) (.slice an x.num.length cn) (.slice ad x.den.length cd) (.bool y.neg) (.slice bn y.num.length dn) (.slice bd y.den.length dd) 25
  generalize ((w.alloc (.cells #[.bool x.neg, .slice an x.num.length cn, .slice ad x.den.length cd] 25)).alloc (.cells #[.bool y.neg, .slice bn y.num.length dn, .slice bd y.den.length dd] 25)).alloc (.cells #[.bool false, .slice none 0 0, .slice none 0 0] 25) = W0 at *
  have HS0 := Lib.hid (r3Sign (HVy.out.below hF.bl) (by show y.num.length ≤ _; omega))
  have HF0 := Lib.hid hF
  clear hF
  refine HS0.out.mono ?_
  rintro e W ⟨rfl, hbW⟩
  have HF := Lib.hid (HF0.out.below hbW)
  have HA4 := Lib.hid (A4.out.below HF.out.bl)
  have HA5 := Lib.hid (A5.out.below HF.out.bl)
  have HB4 := Lib.hid (B4.out.below HF.out.bl)
  have HB5 := Lib.hid (B5.out.below HF.out.bl)
  generalize signQ (ratOf y) = sq at *
  clear A4 A5 B4 B5 HS0 HF0 hbW HVy
  go_upto_region 3 with fail
  have xbl : Below W.heap.size W W.drew := (Below.refl _ _).drew
  have tok1 : True := trivial
  have tok2 : True := trivial
  clear hs0
  go_region_held3 (fun w' => w'.cell? ⟨w.heap.size, 0, none⟩ = some (.bool x.neg) ∧ w'.cell? ⟨w.heap.size, 1, none⟩ = some (.slice an x.num.length cn) ∧ w'.cell? ⟨w.heap.size, 2, none⟩ = some (.slice ad x.den.length cd) ∧
      w'.cell? ⟨w.heap.size + 1, 0, none⟩ = some (.bool y.neg) ∧ w'.cell? ⟨w.heap.size + 1, 1, none⟩ = some (.slice bn y.num.length dn) ∧ w'.cell? ⟨w.heap.size + 1, 2, none⟩ = some (.slice bd y.den.length dd))
    (first | exact S33_keep HF.out.a HF.out.b HF.out.a.lt HF.out.b.lt ‹Below W.heap.size W _› | exact S33_keep (B := w.heap.size + 1 + 1) HF.out.a HF.out.b (Nat.lt_succ_of_lt (Nat.lt_succ_self _)) (Nat.lt_succ_self _) (below_store3 (hS5.mono (Nat.le_of_lt HF.out.c.lt)) (Nat.le_refl _) _ _ _))
    (first
      | (go_at_call 49; have _t := tok1; clear tok1; have hS := ‹Below W.heap.size W _›; refine (r3one dd b3 (HB5.out.below hS) (by omega)).mono ?_; rintro e w1 ⟨a1, c1, l1, rfl, p1, p2, p3, p4, p5⟩
         have hS1 := hS.trans (p5.mono hS.size); have P2 := Lib.hid p2; have P3 := Lib.hid p3; clear p2 p3)
      | (go_at_call 34; have _t := tok2; clear tok2; have hS := ‹Below W.heap.size W _›; refine (r1Mul cn c1 (HA4.out.below hS) P2.out rfl P3.out (by omega)).mono ?_; rintro e w2 ⟨a2', c2, rfl, g1, g2, g3, _⟩
         have hS2 := hS.trans (g3.mono hS.size); have G2 := Lib.hid g2; clear g2
         have hml : (limbs (lval x.num * underN y.den)).length ≤ 2097152 := Nat.le_trans (mul_len rfl P3.out hx1 p4 HA4.out.lim P2.out.lim) (by omega))
      | (go_at_call 49; have hS := ‹Below W.heap.size W _›; refine (r3one cd a3 (HA5.out.below hS) (by omega)).mono ?_; rintro e w3 ⟨a3', c3, l3, rfl, q1, q2, q3, q4, q5⟩
         have hS3 := hS.trans (q5.mono hS.size); have G2b := Lib.hid (G2.out.below q5); have Q2 := Lib.hid q2; have Q3 := Lib.hid q3; clear q2 q3)
      | (go_at_call 34; have hS := ‹Below W.heap.size W _›; refine (r1Mul c3 dn Q2.out (HB4.out.below hS) Q3.out rfl (by omega)).mono ?_; rintro e w4 ⟨a4, c4, rfl, t1, t2, t3, _⟩
         have hS4 := hS.trans (t3.mono hS.size); have G2d := Lib.hid (G2b.out.below t3); have T2 := Lib.hid t2; clear t2
         have hdl : (limbs (underN x.den * lval y.num)).length ≤ 2097152 := Nat.le_trans (mul_len Q3.out rfl q4 hy1 Q2.out.lim HB4.out.lim) (by omega))
      | (go_at_call 48; have hS := ‹Below W.heap.size W _›; refine (r3quot (x.neg != y.neg) c2 c4 g1 t1 G2d.out T2.out (lval_limbs _) (lval_limbs _) hml hdl HDp.out).mono ?_
         rintro e w5 ⟨v5, rfl, ⟨bn', bd', m1, m2, rfl, k3, k4, k5, k6⟩, k2⟩
         have hS5 := hS.trans (k2.mono hS.size)
         obtain ⟨r0, r1, r2, rf, rlt⟩ := HF.out.c.below hS5
         have hN5 := Lib.hid (HF.out.nc.below hS5 HF.out.c.lt)
         have K5 := Lib.hid k5
         have K6 := Lib.hid k6
         have hB5 := Lib.hid (HF.out.bl.trans (hS5.mono (by have := HF.out.a.lt; omega)))))
  generalize quotN (x.neg != y.neg) (lval x.num * underN y.den) (underN x.den * lval y.num) = R at *
  go_wp2
  exact bodyPost_ret (v := .tuple #[.agg #[.bool R.neg, .slice bn' R.num.length m1, .slice bd' R.den.length m2], .int .i64 0]) (by simp [results, Try.results24, go_sem, r0, r1, r2]) rfl ⟨_, rfl, by rw [hQ.out]; exact RatV.store hN5.out k3 k4 K5.out K6.out, below_store3 hB5.out (by omega) _ _ _⟩

theorem ratL_int (z : Int) : ratL (z : Rat) = ⟨decide (z < 0), limbs z.natAbs, []⟩ := by
  unfold ratL
  rw [Rat.num_intCast, Rat.den_intCast]
  rfl

set_option maxRecDepth 100000 in
set_option maxHeartbeats 1600000 in
theorem r3Of (w : World) (x : Int) (h1 : -9223372036854775808 ≤ x) (h2 : x ≤ 9223372036854775807) :
    Calls Try.prog 22 #[.int .i64 x] w (RetR w (ratL (x : Rat))) := by
  have hR := Box3.alloc w (.bool false) (.slice none 0 0) (.slice none 0 0) 25
  have hN := NoInt.alloc w #[.bool false, .slice none 0 0, .slice none 0 0] 25 (by simp)
  have hB0 : Below w.heap.size w (w.alloc (.cells #[.bool false, .slice none 0 0, .slice none 0 0] 25)) := (Below.refl _ _).alloc (Nat.le_refl _) _
  have HO := Lib.hid (fun wv => r2Of wv x h1 h2)
  have HR := Lib.hid hR
  have HN := Lib.hid hN
  have HB := Lib.hid hB0
  have HQ := Lib.hid (ratL_int x)
  clear hR hN hB0
  go_enter Try.func22, Try.ntmps22
  go_wp2_with fail
  refine (HO.out _).mono ?_
  rintro e w1 ⟨v1, rfl, ⟨a1, c1, rfl, g1, g2⟩, hb⟩
  generalize hzb : decide (x < 0) = zb at *
  generalize hzn : limbs x.natAbs = zn at *
  have hal : Below w1.heap.size w1 (w1.alloc (.cells #[.bool zb, .slice a1 zn.length c1] 62)) := (Below.refl _ _).alloc (Nat.le_refl _) _
  obtain ⟨r0, r1, r2, rf, rlt⟩ := (HR.out.below hb).below hal
  have hN2 := Lib.hid ((HN.out.below hb HR.out.lt).below hal (HR.out.below hb).lt)
  have HB2 := Lib.hid (HB.out.trans ((hb.trans (hal.mono hb.size)).mono HB.out.size))
  have G2 := Lib.hid (g2.below hal)
  clear HO hb hal g2 HR HN HB hzb hzn
  go_wp2
  exact bodyPost_ret (v := .agg #[.bool zb, .slice a1 zn.length c1, .slice none 0 0]) (by simp [results, Try.results22, go_sem, r0, r1, r2]) rfl ⟨_, rfl, by rw [HQ.out]; exact RatV.store (x := ⟨zb, zn, []⟩) (bd := none) (m2 := 0) hN2.out g1 (Nat.le_refl _) G2.out (U32s.nil _ _), below_store3 HB2.out (Nat.le_refl _) _ _ _⟩

end Go.Proofs.Ytfmhedfiklidhaa

/-
  The reference's Make, Frac, Num, Den, Whole of layer 3: by contract.
-/
namespace Go.Proofs.Ytfmhedfiklidhaa
open Go.RowKit

/-- Two integers boxed, and a rational's place. -/
structure TwoIR (w W : World) (g : Nat) (p q r s : Value) : Prop where
  a : Box2 W g p q
  b : Box2 W (g + 1) r s
  c : Box3 W (g + 1 + 1) (.bool false) (.slice none 0 0) (.slice none 0 0)
  nc : NoInt W (g + 1 + 1)
  bl : Below g w W
theorem TwoIR.mk' (w : World) (p q r s : Value) (T T' : Nat) : TwoIR w (((w.alloc (.cells #[p, q] T)).alloc (.cells #[r, s] T)).alloc (.cells #[.bool false, .slice none 0 0, .slice none 0 0] T')) w.heap.size p q r s := by
  have step : ∀ (W : World) (o : Obj), Below W.heap.size W (W.alloc o) := fun W o => (Below.refl _ _).alloc (Nat.le_refl _) _
  have s1 := step w (.cells #[p, q] T)
  have s2 := step (w.alloc (.cells #[p, q] T)) (.cells #[r, s] T)
  have s3 := step ((w.alloc (.cells #[p, q] T)).alloc (.cells #[r, s] T)) (.cells #[.bool false, .slice none 0 0, .slice none 0 0] T')
  have b1 := Box2.alloc w p q T
  have b2 := Box2.alloc (w.alloc (.cells #[p, q] T)) r s T
  have b3 := Box3.alloc ((w.alloc (.cells #[p, q] T)).alloc (.cells #[r, s] T)) (.bool false) (.slice none 0 0) (.slice none 0 0) T'
  have n3 := NoInt.alloc ((w.alloc (.cells #[p, q] T)).alloc (.cells #[r, s] T)) #[.bool false, .slice none 0 0, .slice none 0 0] T' (by simp)
  have b1' := (b1.below s2).below s3
  have b2' := b2.below s3
  have bl := (s1.trans (s2.mono (by simp))).trans (s3.mono (by simp; omega))
  simp only [World.size_alloc] at b2' b3 n3
  exact ⟨b1', b2', b3, n3, bl⟩
theorem TwoIR.below' {w W W' : World} {g : Nat} {p q r s : Value} (h : TwoIR w W g p q r s) (hb : Below W.heap.size W W') : TwoIR w W' g p q r s :=
  ⟨h.a.below hb, h.b.below hb, h.c.below hb, h.nc.below hb h.c.lt, h.bl.trans (hb.mono (by have := h.a.lt; omega))⟩

set_option maxRecDepth 100000 in
set_option maxHeartbeats 1600000 in
theorem r3Make {w : World} {v u : Value} {n1 n2 : Bool} {x y k1 k2 : Nat} (hv : IntV w v n1 x k1) (hu : IntV w u n2 y k2) (hy : 0 < y) (hr1 : k1 ≤ 2097152) (hr2 : k2 ≤ 2097152) :
    Calls Try.prog 35 #[v, u] w (RetRE w (ratL (mkRat (sgn (n1 != n2) x) y)) 0) := by
  have HU := Lib.hid hu
  obtain ⟨a, c, l, rfl, h1, h2, h3, h4⟩ := hv.ex
  obtain ⟨b, d, m, rfl, g1, g2, g3, g4⟩ := hu.ex
  have hl1 := h2.len
  have hl2 := g2.len
  have HQ := Lib.hid (quotN_ratL (n1 != n2) x hy)
  have H2 := Lib.hid h2
  have G2 := Lib.hid g2
  have H3 := Lib.hid h3
  have G3 := Lib.hid g3
  have HY := Lib.hid hy
  have hz : (signZ n2 y == 0) = false := by
    rw [beq_eq_false_iff_ne]
    unfold signZ
    rw [if_neg (by omega)]
    split <;> omega
  clear hv hu h2 g2 h3 g3 hy
  go_enter Try.func35, Try.ntmps35
  go_wp2_with fail
  have hF := TwoIR.mk' w (.bool n1) (.slice a l.length c) (.bool n2) (.slice b m.length d) 62 25
  generalize ((w.alloc (.cells #[.bool n1, .slice a l.length c] 62)).alloc (.cells #[.bool n2, .slice b m.length d] 62)).alloc (.cells #[.bool false, .slice none 0 0, .slice none 0 0] 25) = W0 at *
  have HS := Lib.hid (r2Sign (HU.out.below hF.bl) (by omega))
  have HF0 := Lib.hid hF
  clear hF
  refine HS.out.mono ?_
  rintro e W ⟨rfl, hbW⟩
  have HF := Lib.hid (HF0.out.below' hbW)
  generalize signZ n2 y = sq at *
  clear HS HF0 hbW HU
  obtain ⟨x0, x1, _, xlt⟩ := HF.out.a
  obtain ⟨y0, y1, _, ylt⟩ := HF.out.b
  have hC := r3quot (n1 != n2) c d h1 g1 (H2.out.below HF.out.bl) (G2.out.below HF.out.bl) H3.out G3.out (by omega) (by omega) HY.out
  rw [HQ.out] at hC
  have HC := Lib.hid hC
  clear hC H2 G2
  go_wp2_with fail
  refine HC.out.mono ?_
  rintro e w5 ⟨v5, rfl, ⟨bn', bd', m1, m2, rfl, k3, k4, k5, k6⟩, k2⟩
  obtain ⟨r0, r1, r2, rf, rlt⟩ := HF.out.c.below k2
  have hN5 := Lib.hid (HF.out.nc.below k2 HF.out.c.lt)
  have K5 := Lib.hid k5
  have K6 := Lib.hid k6
  have hB5 := Lib.hid (HF.out.bl.trans (k2.mono (by have := HF.out.a.lt; omega)))
  clear HC k5 k6 k2 x0 x1 xlt y0 y1 ylt hz
  generalize ratL (mkRat (sgn (n1 != n2) x) y) = R at *
  go_wp2
  exact bodyPost_ret (v := .tuple #[.agg #[.bool R.neg, .slice bn' R.num.length m1, .slice bd' R.den.length m2], .int .i64 0]) (by simp [results, Try.results35, go_sem, r0, r1, r2]) rfl ⟨_, rfl, RatV.store hN5.out k3 k4 K5.out K6.out, below_store3 hB5.out (by omega) _ _ _⟩

theorem fracQ (a b : Int) : mkRat (sgn (decide (a < 0) != decide (b < 0)) a.natAbs) b.natAbs = (a : Rat) / (b : Rat) := by
  by_cases hb : b = 0
  · subst hb
    simp [Rat.div_def]
  · have h1 : mkRat (sgn (decide (a < 0) != decide (b < 0)) (a.natAbs * 1)) (1 * b.natAbs) = mkRat (sgn (decide (a < 0)) a.natAbs) 1 / mkRat (sgn (decide (b < 0)) b.natAbs) 1 := divQ _ _ _ _ _ _
    rw [sgn_of_int, sgn_of_int, Nat.mul_one, Nat.one_mul] at h1
    rw [h1, Rat.mkRat_one, Rat.mkRat_one]

set_option maxRecDepth 100000 in
set_option maxHeartbeats 1600000 in
theorem r3Frac (w : World) (a b : Int) (a1 : -9223372036854775808 ≤ a) (a2 : a ≤ 9223372036854775807) (b1 : -9223372036854775808 ≤ b) (b2 : b ≤ 9223372036854775807) (hb0 : b ≠ 0) :
    Calls Try.prog 54 #[.int .i64 a, .int .i64 b] w (RetRE w (ratL ((a : Rat) / (b : Rat))) 0) := by
  have hR := Box3.alloc w (.bool false) (.slice none 0 0) (.slice none 0 0) 25
  have hN := NoInt.alloc w #[.bool false, .slice none 0 0, .slice none 0 0] 25 (by simp)
  have hB0 : Below w.heap.size w (w.alloc (.cells #[.bool false, .slice none 0 0, .slice none 0 0] 25)) := (Below.refl _ _).alloc (Nat.le_refl _) _
  have HO1 := Lib.hid (fun wv => r2Of wv a a1 a2)
  have HO2 := Lib.hid (fun wv => r2Of wv b b1 b2)
  have HR := Lib.hid hR
  have HN := Lib.hid hN
  have HB := Lib.hid hB0
  have HQ := Lib.hid (fracQ a b)
  have la := limbs_len64 (n := a.natAbs) (by omega)
  have lb := limbs_len64 (n := b.natAbs) (by omega)
  have HB0 := Lib.hid (show 0 < b.natAbs by omega)
  clear hR hN hB0 hb0
  go_enter Try.func54, Try.ntmps54
  go_wp2_with fail
  refine (HO1.out _).mono ?_
  rintro e w1 ⟨v1, rfl, i1, hb1⟩
  have I1 := Lib.hid i1
  have HRb1 := Lib.hid (HR.out.below hb1)
  have HNb1 := Lib.hid (HN.out.below hb1 HR.out.lt)
  have HB1 := Lib.hid (HB.out.trans (hb1.mono HB.out.size))
  clear HO1 HR HN HB i1 hb1
  go_wp2_with fail
  refine (HO2.out _).mono ?_
  rintro e w2 ⟨v2, rfl, i2, hb2⟩
  have hM := r3Make (I1.out.below hb2).v i2.v HB0.out (by omega) (by omega)
  rw [HQ.out] at hM
  have HM := Lib.hid hM
  have HR2 := Lib.hid (HRb1.out.below hb2)
  have HN2 := Lib.hid (HNb1.out.below hb2 HRb1.out.lt)
  have HB2 := Lib.hid (HB1.out.trans (hb2.mono HB1.out.size))
  clear HO2 HRb1 HNb1 HB1 i2 hb2 hM I1
  go_wp2_with fail
  refine HM.out.mono ?_
  rintro e w5 ⟨v5, rfl, ⟨bn', bd', m1, m2, rfl, k3, k4, k5, k6⟩, k2⟩
  obtain ⟨r0, r1, r2, rf, rlt⟩ := HR2.out.below k2
  have hN5 := Lib.hid (HN2.out.below k2 HR2.out.lt)
  have K5 := Lib.hid k5
  have K6 := Lib.hid k6
  have hB5 := Lib.hid (HB2.out.trans (k2.mono HB2.out.size))
  clear HM k5 k6 k2
  generalize ratL ((a : Rat) / (b : Rat)) = R at *
  go_wp2
  exact bodyPost_ret (v := .tuple #[.agg #[.bool R.neg, .slice bn' R.num.length m1, .slice bd' R.den.length m2], .int .i64 0]) (by simp [results, Try.results54, go_sem, r0, r1, r2]) rfl ⟨_, rfl, RatV.store hN5.out k3 k4 K5.out K6.out, below_store3 hB5.out (Nat.le_refl _) _ _ _⟩

end Go.Proofs.Ytfmhedfiklidhaa

/-
  The walks of rational.Make and Den: by contract.
-/
namespace Go.Proofs.Ytfmhedfiklidhaa
open Go.RowKit

set_option maxRecDepth 100000 in
set_option maxHeartbeats 1600000 in
theorem rMake {w : World} {v u : Value} {n1 n2 : Bool} {x y k1 k2 : Nat} (hv : IntV w v n1 x k1) (hu : IntV w u n2 y k2) (hy : 0 < y) (hr1 : k1 ≤ 2097152) (hr2 : k2 ≤ 2097152) :
    Calls Try.prog 61 #[v, u] w (RetRE w (ratL (mkRat (sgn (n1 != n2) x) y)) 0) := by
  have HU := Lib.hid hu
  obtain ⟨a, c, l, rfl, h1, h2, h3, h4⟩ := hv.ex
  obtain ⟨b, d, m, rfl, g1, g2, g3, g4⟩ := hu.ex
  have hl1 := h2.len
  have hl2 := g2.len
  have HQ := Lib.hid (quotN_ratL (n1 != n2) x hy)
  have H2 := Lib.hid h2
  have G2 := Lib.hid g2
  have H3 := Lib.hid h3
  have G3 := Lib.hid g3
  have HY := Lib.hid hy
  have hz : (signZ n2 y == 0) = false := by
    rw [beq_eq_false_iff_ne]
    unfold signZ
    rw [if_neg (by omega)]
    split <;> omega
  clear hv hu h2 g2 h3 g3 hy
  go_enter Try.func61, Try.ntmps61
  go_wp2_with fail
  have hF := TwoIR.mk' w (.bool n1) (.slice a l.length c) (.bool n2) (.slice b m.length d) 62 25
  generalize ((w.alloc (.cells #[.bool n1, .slice a l.length c] 62)).alloc (.cells #[.bool n2, .slice b m.length d] 62)).alloc (.cells #[.bool false, .slice none 0 0, .slice none 0 0] 25) = W0 at *
  have HS := Lib.hid (iSign (HU.out.below hF.bl) (by omega))
  have HF0 := Lib.hid hF
  clear hF
  refine HS.out.mono ?_
  rintro e W ⟨rfl, hbW⟩
  have HF := Lib.hid (HF0.out.below' hbW)
  generalize signZ n2 y = sq at *
  clear HS HF0 hbW HU
  obtain ⟨x0, x1, _, xlt⟩ := HF.out.a
  obtain ⟨y0, y1, _, ylt⟩ := HF.out.b
  have hC := rQuot (n1 != n2) c d h1 g1 (H2.out.below HF.out.bl) (G2.out.below HF.out.bl) H3.out G3.out (by omega) (by omega) HY.out
  rw [HQ.out] at hC
  have HC := Lib.hid hC
  clear hC H2 G2
  go_wp2_with fail
  refine HC.out.mono ?_
  rintro e w5 ⟨v5, rfl, ⟨bn', bd', m1, m2, rfl, k3, k4, k5, k6⟩, k2⟩
  obtain ⟨r0, r1, r2, rf, rlt⟩ := HF.out.c.below k2
  have hN5 := Lib.hid (HF.out.nc.below k2 HF.out.c.lt)
  have K5 := Lib.hid k5
  have K6 := Lib.hid k6
  have hB5 := Lib.hid (HF.out.bl.trans (k2.mono (by have := HF.out.a.lt; omega)))
  clear HC k5 k6 k2 x0 x1 xlt y0 y1 ylt hz
  generalize ratL (mkRat (sgn (n1 != n2) x) y) = R at *
  go_wp2
  exact bodyPost_ret (v := .tuple #[.agg #[.bool R.neg, .slice bn' R.num.length m1, .slice bd' R.den.length m2], .int .i64 0]) (by simp [results, Try.results61, go_sem, r0, r1, r2]) rfl ⟨_, rfl, RatV.store hN5.out k3 k4 K5.out K6.out, below_store3 hB5.out (by omega) _ _ _⟩

set_option maxRecDepth 100000 in
set_option maxHeartbeats 1600000 in
theorem rMake_zero {w : World} {v u : Value} {n1 n2 : Bool} {x k1 k2 : Nat} (hv : IntV w v n1 x k1) (hu : IntV w u n2 0 k2) (hr2 : k2 ≤ 2097152) :
    Calls Try.prog 61 #[v, u] w (RetRE w ⟨false, [], []⟩ 3) := by
  have HU := Lib.hid hu
  obtain ⟨a, c, l, rfl, h1, h2, h3, h4⟩ := hv.ex
  obtain ⟨b, d, m, rfl, g1, g2, g3, g4⟩ := hu.ex
  have hz : signZ n2 0 = 0 := rfl
  clear hv hu h2 g2 h3 g3 h1 g1
  go_enter Try.func61, Try.ntmps61
  go_wp2_with fail
  have hF := TwoIR.mk' w (.bool n1) (.slice a l.length c) (.bool n2) (.slice b m.length d) 62 25
  generalize ((w.alloc (.cells #[.bool n1, .slice a l.length c] 62)).alloc (.cells #[.bool n2, .slice b m.length d] 62)).alloc (.cells #[.bool false, .slice none 0 0, .slice none 0 0] 25) = W0 at *
  have HS := Lib.hid (iSign (HU.out.below hF.bl) (by omega))
  have HF0 := Lib.hid hF
  clear hF
  refine HS.out.mono ?_
  rintro e W ⟨rfl, hbW⟩
  have HF := Lib.hid (HF0.out.below' hbW)
  rw [hz]
  clear HS HF0 hbW HU hz
  obtain ⟨r0, r1, r2, rf, rlt⟩ := HF.out.c
  have hB5 := Lib.hid HF.out.bl
  go_wp2
  exact bodyPost_ret (v := .tuple #[.agg #[.bool false, .slice none 0 0, .slice none 0 0], .int .i64 3]) (by simp [results, Try.results61, go_sem, r0, r1, r2]) rfl ⟨_, rfl, ⟨none, none, 0, 0, rfl, Nat.le_refl _, Nat.le_refl _, U32s.nil _ _, U32s.nil _ _⟩, below_store3 hB5.out (by omega) _ _ _⟩

set_option maxHeartbeats 1600000 in
theorem rDen {w : World} {v : Value} {x : RatL} (h : RatV w v x) (hcan : canonL x = x) (hr : x.num.length ≤ 1048576) (hr2 : x.den.length ≤ 1048576) : Calls Try.prog 38 #[v] w (RetN w (underN x.den)) := by
  obtain ⟨an, ad, cn, cd, hv, h2, h3, h4, h5⟩ := h.ex
  have HV := Lib.hid h
  have HVe := Lib.hid hv
  have HCan := Lib.hid hcan
  rw [hv]
  clear h h4 h5 hv h2 h3 hcan
  go_enter Try.func38, Try.ntmps38
  go_wp2_with fail
  have hB0 : Below w.heap.size w (w.alloc (.cells #[.bool x.neg, .slice an x.num.length cn, .slice ad x.den.length cd] 25)) := (Below.refl _ _).alloc (Nat.le_refl _) _
  have HV2 := Lib.hid (HV.out.below hB0)
  rw [HVe.out] at HV2
  have HB := Lib.hid hB0
  generalize w.alloc (.cells #[.bool x.neg, .slice an x.num.length cn, .slice ad x.den.length cd] 25) = W at *
  clear hB0 HV HVe
  refine (rCanon HV2.out (by omega) (by omega)).mono ?_
  rintro e w1 ⟨v1, rfl, k1, k2⟩
  rw [HCan.out] at k1
  have HB1 := Lib.hid (HB.out.trans (k2.mono HB.out.size))
  have K1 := Lib.hid k1
  clear k1 k2 HB HV2
  go_wp2_with fail
  refine (rUnder K1.out (by omega)).mono ?_
  rintro e w2 ⟨a1, c1, l1, rfl, g1, g2, g3, g4, g5⟩
  have HB2 := Lib.hid (HB1.out.trans (g5.mono HB1.out.size))
  have G2 := Lib.hid g2
  have G3 := Lib.hid g3
  have hl1 : l1.length ≤ 1048577 := by omega
  clear g2 g3 g4 g5 HB1
  go_wp2_with fail
  refine (nMake c1 g1 G2.out (by omega)).mono ?_
  rintro e w3 ⟨a3, c3, rfl, k1, k2, k3⟩
  rw [G3.out] at *
  have HB3 := Lib.hid (HB2.out.trans (k3.mono HB2.out.size))
  have K2 := Lib.hid k2
  clear k2 k3
  go_wp2
  go_ret
  exact ⟨a3, c3, rfl, k1, K2.out, HB3.out⟩

end Go.Proofs.Ytfmhedfiklidhaa

/-
  The reference's Num, Den, Whole of layer 3, Int of layer 2: by contract.
-/
namespace Go.Proofs.Ytfmhedfiklidhaa
open Go.RowKit

theorem U32s.store3 {w : World} {g : Nat} {a : Option Addr} {l : List Nat} (h : U32s w a l) (hN : NoInt w g) (b : Bool) (x : Option Addr) (n c : Nat) (y : Option Addr) (m d : Nat) : U32s (((w.setCell ⟨g, 0, none⟩ (.bool b)).setCell ⟨g, 1, none⟩ (.slice x n c)).setCell ⟨g, 2, none⟩ (.slice y m d)) a l :=
  ((h.setCell hN _ _).setCell (hN.setCell _ _ (by simp)) _ _).setCell ((hN.setCell _ _ (by simp)).setCell _ _ (by simp)) _ _
theorem Try.fieldDen (b : Bool) (x y : Option Addr) (n m c d : Nat) (w : World) : (Instr.field 25 (.agg #[.bool b, .slice x n c, .slice y m d]) 2).run Try.prog w = .ok (.slice y m d) w := by kernel_rfl

theorem wholeQ (neg : Bool) (n : Nat) : canonL ⟨neg, limbs n, []⟩ = ratL ((sgn neg n : Int) : Rat) := by
  rw [canonL_ratL]
  unfold ratOf underN
  rw [lval_nil, if_pos rfl, lval_limbs, Rat.mkRat_one]
theorem wholeQ' (neg : Bool) (l : List Nat) : canonL ⟨neg, l, []⟩ = ratL ((sgn neg (lval l) : Int) : Rat) := by
  rw [canonL_ratL]
  unfold ratOf underN
  rw [lval_nil, if_pos rfl, Rat.mkRat_one]

end Go.Proofs.Ytfmhedfiklidhaa

/-
  The reference's Same, Valid, ValidAll of layer 3: by contract.
-/
namespace Go.Proofs.Ytfmhedfiklidhaa
open Go.RowKit

/-- Two rationals boxed. -/
structure TwoB (w W : World) (g : Nat) (p q r s t u : Value) : Prop where
  a : Box3 W g p q r
  b : Box3 W (g + 1) s t u
  bl : Below g w W
theorem TwoB.mk' (w : World) (p q r s t u : Value) (T : Nat) : TwoB w ((w.alloc (.cells #[p, q, r] T)).alloc (.cells #[s, t, u] T)) w.heap.size p q r s t u := by
  have step : ∀ (W : World) (o : Obj), Below W.heap.size W (W.alloc o) := fun W o => (Below.refl _ _).alloc (Nat.le_refl _) _
  have s1 := step w (.cells #[p, q, r] T)
  have s3 := step (w.alloc (.cells #[p, q, r] T)) (.cells #[s, t, u] T)
  have b1 := Box3.alloc w p q r T
  have b3 := Box3.alloc (w.alloc (.cells #[p, q, r] T)) s t u T
  have b1' := b1.below s3
  have bl := s1.trans (s3.mono (by simp))
  simp only [World.size_alloc] at b3
  exact ⟨b1', b3, bl⟩
theorem ratL_ext (x y : RatL) : decide (x = y) = (decide (x.neg = y.neg) && (decide (x.num = y.num) && decide (x.den = y.den))) := by
  rw [Bool.eq_iff_iff]
  simp only [decide_eq_true_eq, Bool.and_eq_true]
  obtain ⟨a, b, c⟩ := x
  obtain ⟨d, e, f⟩ := y
  simp

set_option maxRecDepth 100000 in
set_option maxHeartbeats 1600000 in
theorem r3Same {w : World} {v u : Value} {x y : RatL} (hv : RatV w v x) (hu : RatV w u y) :
    Calls Try.prog 16 #[v, u] w fun e w' => e = .returned (.bool (decide (x = y))) ∧ Below w.heap.size w w' := by
  obtain ⟨an, ad, cn, cd, rfl, a2, a3, a4, a5⟩ := hv.ex
  obtain ⟨bn, bd, dn, dd, rfl, b2, b3, b4, b5⟩ := hu.ex
  have HR := Lib.hid (ratL_ext x y)
  generalize decide (x = y) = R at *
  have hl1 := a4.len
  have hl2 := a5.len
  have hl3 := b4.len
  have hl4 := b5.len
  have A4 := Lib.hid a4
  have A5 := Lib.hid a5
  have B4 := Lib.hid b4
  have B5 := Lib.hid b5
  clear hv hu a4 a5 b4 b5
  go_enter Try.func16, Try.ntmps16
  go_upto_region 1 with fail
  have hF := TwoB.mk' w (.bool x.neg) (.slice an x.num.length cn) (.slice ad x.den.length cd) (.bool y.neg) (.slice bn y.num.length dn) (.slice bd y.den.length dd) 25
  generalize (w.alloc (.cells #[.bool x.neg, .slice an x.num.length cn, .slice ad x.den.length cd] 25)).alloc (.cells #[.bool y.neg, .slice bn y.num.length dn, .slice bd y.den.length dd] 25) = W at *
  have HBl := Lib.hid hF.bl
  have HM1 := Lib.hid (r1Same cn dn (A4.out.below hF.bl) (B4.out.below hF.bl))
  have HM2 := Lib.hid (fun n => r1Same cd dd ((A5.out.below hF.bl).drewN n) ((B5.out.below hF.bl).drewN n))
  have HBn := Lib.hid (fun (wv : World) n => Below.drewN_refl wv n)
  obtain ⟨x0, x1, x2, _, xlt⟩ := hF.a
  obtain ⟨y0, y1, y2, _, ylt⟩ := hF.b
  have hbs := hF.bl.size
  clear hF A4 A5 B4 B5
  by_cases e1 : x.neg = y.neg
  · have te1 : (x.neg == y.neg) = true := by rw [beq_iff_eq]; exact e1
    rw [decide_eq_true e1, Bool.true_and] at HR
    clear e1
    by_cases e2 : x.num = y.num
    · rw [decide_eq_true e2] at HR HM1
      clear e2
      rw [Bool.true_and] at HR
      generalize decide (x.den = y.den) = D at *
      go_wp2_with fail
      refine HM1.out.mono ?_
      rintro e w2 ⟨rfl, n1, rfl⟩
      go_wp2_with fail
      refine (HM2.out n1).mono ?_
      rintro e w3 ⟨rfl, n2, rfl⟩
      go_wp2
      go_ret
      exact ⟨ret_bool HR.out.symm, HBl.out.trans ((HBn.out _ (n1 + n2)).mono HBl.out.size)⟩
    · rw [decide_eq_false e2] at HR HM1
      clear e2
      rw [Bool.false_and] at HR
      go_wp2_with fail
      refine HM1.out.mono ?_
      rintro e w2 ⟨rfl, n1, rfl⟩
      go_wp2
      go_ret
      exact ⟨ret_bool HR.out.symm, HBl.out.trans ((HBn.out _ _).mono HBl.out.size)⟩
  · have te1 : (x.neg == y.neg) = false := by rw [beq_eq_false_iff_ne]; exact e1
    rw [decide_eq_false e1, Bool.false_and] at HR
    clear e1
    go_wp2
    go_ret
    exact ⟨ret_bool HR.out.symm, HBl.out⟩

set_option maxRecDepth 100000 in
set_option maxHeartbeats 1600000 in
theorem r3Valid {w : World} {v : Value} {x : RatL} (hv : RatV w v x) (hx : RatLe x 1048576) :
    Calls Try.prog 26 #[v] w fun e w' => e = .returned (.bool (validR x)) ∧ Below w.heap.size w w' := by
  have HV := Lib.hid hv
  have HX := Lib.hid hx
  obtain ⟨an, ad, cn, cd, rfl, a2, a3, a4, a5⟩ := hv.ex
  have HR : Hid (validR x = decide (x = canonL x)) := rfl
  generalize validR x = R at *
  have hl1 := a4.len
  have hl2 := a5.len
  clear hv hx a4 a5
  go_enter Try.func26, Try.ntmps26
  go_upto_region 1 with fail
  have hX := Box3.alloc w (.bool x.neg) (.slice an x.num.length cn) (.slice ad x.den.length cd) 25
  have hb : Below w.heap.size w (w.alloc (.cells #[.bool x.neg, .slice an x.num.length cn, .slice ad x.den.length cd] 25)) := (Below.refl _ _).alloc (Nat.le_refl _) _
  generalize w.alloc (.cells #[.bool x.neg, .slice an x.num.length cn, .slice ad x.den.length cd] 25) = W at *
  have HB := Lib.hid hb
  have HV2 := Lib.hid (HV.out.below hb)
  have HX3 := Lib.hid hX
  obtain ⟨x0, x1, x2, xf, xlt⟩ := hX
  have xbl : Below W.heap.size W W.drew := (Below.refl _ _).drew
  clear hb xf HV
  go_region_held3 (fun w' => w'.cell? ⟨w.heap.size, 0, none⟩ = some (.bool x.neg) ∧ w'.cell? ⟨w.heap.size, 1, none⟩ = some (.slice an x.num.length cn) ∧ w'.cell? ⟨w.heap.size, 2, none⟩ = some (.slice ad x.den.length cd))
    (first | exact S3_keep x0 x1 x2 xlt ‹Below W.heap.size W _› | go_keep)
    (first
      | (go_at_call 55; have hS := ‹Below W.heap.size W _›; refine (r3Canon (HV2.out.below hS) HX.out).mono ?_; rintro e w1 ⟨v1, rfl, g1, g2⟩
         have hS1 := hS.trans (g2.mono hS.size); have G1 := Lib.hid g1; clear g1)
      | (go_at_call 16; have hS := ‹Below W.heap.size W _›; refine (r3Same (HV2.out.below hS) G1.out).mono ?_
         rintro e w2 ⟨rfl, g3⟩
         have hS2 := hS.trans (g3.mono hS.size)
         have hB2 := Lib.hid (HB.out.trans (hS2.mono HB.out.size))))
  go_wp2
  go_ret
  exact ⟨ret_bool HR.out.symm, hB2.out⟩

theorem allV_take {L : List RatL} {j : Nat} {x : RatL} (hx : L[j]? = some x) : (L.take (j + 1)).all validR = ((L.take j).all validR && validR x) := by
  rw [take_succ_at hx, List.all_append]; simp
theorem allV_false {L : List RatL} {x : RatL} (hx : x ∈ L) (h : validR x = false) : L.all validR = false := by
  rw [List.all_eq_false]; exact ⟨x, hx, by simp [h]⟩

end Go.Proofs.Ytfmhedfiklidhaa

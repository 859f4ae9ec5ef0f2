/-
  Contracts of the functions that the statements reach, in the order in which they are built: RefA.
-/
import Derived.Test.YthlmgejikbmmaaaM4
set_option linter.unusedVariables false
set_option linter.unusedSimpArgs false
set_option linter.constructorNameAsVariable false
set_option linter.deprecated false

/-
  The reference's limb, Cmp, Same of layer 1: by contract.
-/
namespace Go.Proofs.Ythlmgejikbmmaaa
open Go.RowKit

theorem take_succ_at' {l : List Nat} {k x : Nat} (hx : l[k]? = some x) : l.take (k + 1) = l.take k ++ [x] := by
  rw [List.take_add_one, hx]; rfl

set_option maxHeartbeats 800000 in
theorem r1Limb {w : World} {a : Option Addr} {l : List Nat} (c i : Nat) (hi : i ≤ 9223372036854775807) (h : U32s w a l) :
    Calls Try.prog 123 #[.slice a l.length c, .int .i64 (i : Int)] w fun e w' => e = .returned (.int .u32 (dig l i : Int)) ∧ w = w' := by
  have hl := h.len
  by_cases hlt : i < l.length
  · obtain ⟨b, off, rfl, _, hc⟩ := h.pick hlt
    clear h
    go_enter Try.func123, Try.ntmps123
    go_wp2
    go_ret
    exact ⟨rfl, rfl⟩
  · have hd := Lib.hid (dig_out (l := l) (i := i) (by omega))
    clear h
    go_enter Try.func123, Try.ntmps123
    go_wp2
    go_ret
    exact ⟨by rw [hd.out]; rfl, rfl⟩

theorem lval_ext {l : List Nat} {N : Nat} (h : l.length ≤ N) : valN (dig l) N = lval l := valN_more h (fun i h1 _ => dig_out h1)
/-- Two lists of limbs, compared from a place on. -/
theorem lval_lt_at {l m : List Nat} {N k : Nat} (hl : Lim l) (hN1 : l.length ≤ N) (hN2 : m.length ≤ N) (hk : k < N) (hs : ∀ j, k + 1 ≤ j → j < N → dig l j = dig m j) (h : dig l k < dig m k) : lval l < lval m := by
  have := valN_lt_at (f := dig l) (g := dig m) (n := N) (i := k) (fun j _ => dig_lt hl j) hk (fun j h1 h2 => hs j h1 h2) h
  rwa [lval_ext hN1, lval_ext hN2] at this

set_option maxHeartbeats 1600000 in
theorem r1Cmp {w : World} {a b : Option Addr} {l m : List Nat} (c d : Nat) (h : U32s w a l) (g : U32s w b m) :
    Calls Try.prog 149 #[.slice a l.length c, .slice b m.length d] w fun e w' => e = .returned (.int .i64 (cmpN (lval l) (lval m))) ∧ w = w' := by
  have hl := h.len
  have hm := g.len
  have HL := Lib.hid h.lim
  have HM := Lib.hid g.lim
  have HC1 := Lib.hid (fun i hi => r1Limb c i hi h)
  have HC2 := Lib.hid (fun i hi => r1Limb d i hi g)
  clear h g
  obtain ⟨N, hN⟩ : ∃ N : Nat, N = max l.length m.length := ⟨_, rfl⟩
  have hN1 : l.length ≤ N := by omega
  have hN2 : m.length ≤ N := by omega
  have hN3 : N ≤ 9223372036854775807 := by omega
  have hmx : max (l.length : Int) (m.length : Int) = (N : Int) := by omega
  clear hN
  go_enter Try.func149, Try.ntmps149
  go_wp2
  all_goals
    go_loop [5] (fun i => ∃ k : Nat, ∃ I : Int, k ≤ N ∧ I + 1 = (k : Int) ∧ i = .int .i64 I ∧ Hid (∀ j, k ≤ j → j < N → dig l j = dig m j)) (fun i => (intOf i + 1).toNat)
    case atStart => exact ⟨N, _, Nat.le_refl _, by omega, rfl, fun j h1 h2 => by omega⟩
    case round =>
      obtain ⟨k, I, hk, hI, rfl, hs⟩ := hrel
      try clear hmx
      cases k with
      | zero =>
        obtain rfl : I = -1 := by omega
        have HR : Hid (cmpN (lval l) (lval m) = 0) := by
          unfold Hid
          rw [← lval_ext hN1, ← lval_ext hN2, valN_congr (fun j hj => hs.out j (Nat.zero_le _) hj)]
          exact cmpN_eq _
        go_wp2
        go_ret
        exact ⟨ret_int HR.out.symm, rfl⟩
      | succ q =>
        obtain rfl : I = (q : Int) := by omega
        have b1 := dig_lt HL.out q
        have b2 := dig_lt HM.out q
        rcases Nat.lt_trichotomy (dig l q) (dig m q) with h1 | h1 | h1
        · have HR := Lib.hid (cmpN_lt (lval_lt_at HL.out hN1 hN2 (by omega) hs.out h1))
          have C1 := Lib.hid (HC1.out q (by omega))
          have C2 := Lib.hid (HC2.out q (by omega))
          clear HC1 HC2 hs
          generalize dig l q = x at *
          generalize dig m q = y at *
          have d1 : decide (x < y) = true := decide_eq_true h1
          go_wp2_with (go_at_call 123; first | ((with_reducible refine C1.out.mono ?_); rintro e w' ⟨rfl, rfl⟩) | ((with_reducible refine C2.out.mono ?_); rintro e w' ⟨rfl, rfl⟩))
          go_ret
          exact ⟨ret_int HR.out.symm, rfl⟩
        · have HS2 : Hid (∀ j, q ≤ j → j < N → dig l j = dig m j) := fun j g1 g2 => by
            by_cases hj : j = q
            · rw [hj]; exact h1
            · exact hs.out j (by omega) g2
          have C1 := Lib.hid (HC1.out q (by omega))
          have C2 := Lib.hid (HC2.out q (by omega))
          rw [← h1] at C2
          clear hs h1 b2
          generalize dig l q = x at *
          go_wp2_with (go_at_call 123; first | ((with_reducible refine C1.out.mono ?_); rintro e w' ⟨rfl, rfl⟩) | ((with_reducible refine C2.out.mono ?_); rintro e w' ⟨rfl, rfl⟩))
          go_round
          case rel => exact ⟨q, (q : Int) - 1, by omega, by omega, rfl, HS2.out⟩
          case measure => simp [intOf]
        · have HR := Lib.hid (cmpN_gt (lval_lt_at HM.out hN2 hN1 (by omega) (fun j g1 g2 => (hs.out j g1 g2).symm) h1))
          have C1 := Lib.hid (HC1.out q (by omega))
          have C2 := Lib.hid (HC2.out q (by omega))
          clear HC1 HC2 hs
          generalize dig l q = x at *
          generalize dig m q = y at *
          have d1 : decide (x < y) = false := decide_eq_false (by omega)
          have d2 : decide (y < x) = true := decide_eq_true h1
          go_wp2_with (go_at_call 123; first | ((with_reducible refine C1.out.mono ?_); rintro e w' ⟨rfl, rfl⟩) | ((with_reducible refine C2.out.mono ?_); rintro e w' ⟨rfl, rfl⟩))
          go_ret
          exact ⟨ret_int HR.out.symm, rfl⟩

set_option maxHeartbeats 1600000 in
theorem r1Same {w : World} {a b : Option Addr} {l m : List Nat} (c d : Nat) (h : U32s w a l) (g : U32s w b m) :
    Calls Try.prog 120 #[.slice a l.length c, .slice b m.length d] w fun e w' => e = .returned (.bool (decide (l = m))) ∧ ∃ n, w' = w.drewN n := by
  have hl := h.len
  have hm := g.len
  have HA := Lib.hid h
  have HB := Lib.hid g
  clear h g
  go_enter Try.func120, Try.ntmps120
  by_cases he : l.length = m.length
  · have HE := Lib.hid he
    have hlb : decide (¬ (l.length : Int) = (m.length : Int)) = false := by simp; omega
    have hlc : ((l.length : Int) == (m.length : Int)) = true := by simp; omega
    have hge1 : l.length ≤ m.length := by omega
    have hge2 : m.length ≤ l.length := by omega
    go_wp2
    go_loopw [5] (fun i wr => ∃ j : Nat, j ≤ l.length ∧ i = .int .i64 (j : Int) ∧ Hid (l.take j = m.take j) ∧ Hid (∃ n, wr = w.drewN n)) (fun i _ => l.length - (intOf i).toNat)
    case atStart => exact ⟨0, Nat.zero_le _, rfl, by simp [Hid], 0, rfl⟩
    case round =>
      obtain ⟨j, hj, rfl, HT, HN⟩ := hrel
      obtain ⟨nd, rfl⟩ := HN.out
      by_cases hlt : j < l.length
      · have hltm : j < m.length := by omega
        obtain ⟨p1, o1, rfl, _, cA⟩ := HA.out.pick hlt
        obtain ⟨p2, o2, rfl, _, cB⟩ := HB.out.pick hltm
        have TA := Lib.hid (take_succ_at' (at_dig hlt))
        have TB := Lib.hid (take_succ_at' (at_dig hltm))
        have GA := Lib.hid (at_dig hlt)
        have GB := Lib.hid (at_dig hltm)
        generalize dig l j = x at *
        generalize dig m j = y at *
        by_cases hxy : x = y
        · subst hxy
          go_wp2
          go_quiet (fail)
          go_wp2
          go_roundw
          case rel => exact ⟨j + 1, hlt, by go_num, by unfold Hid; rw [TA.out, TB.out, HT.out], _, rfl⟩
          case measure => simp [intOf]; omega
        · have hne : Hid (decide (l = m) = false) := by
            unfold Hid
            rw [decide_eq_false_iff_not]
            rintro rfl
            have h1 := GA.out.symm.trans GB.out
            cases h1
            exact hxy rfl
          have hxb : ((x : Int) == (y : Int)) = false := by rw [beq_eq_false_iff_ne]; omega
          go_wp2
          go_quiet (fail)
          go_wp2
          go_ret
          exact ⟨by rw [hne.out]; rfl, drew2 _ _ _⟩
      · obtain rfl : j = l.length := by omega
        have he2 : Hid (decide (l = m) = true) := by
          have h1 := HT.out
          rw [List.take_length, HE.out, List.take_length] at h1
          unfold Hid; simp [h1]
        go_wp2
        go_ret
        exact ⟨by rw [he2.out]; rfl, _, rfl⟩
  · have hne : Hid (decide (l = m) = false) := by
      unfold Hid
      rw [decide_eq_false_iff_not]
      rintro rfl
      exact he rfl
    go_wp2
    go_ret
    exact ⟨by rw [hne.out]; rfl, 0, rfl⟩

end Go.Proofs.Ythlmgejikbmmaaa

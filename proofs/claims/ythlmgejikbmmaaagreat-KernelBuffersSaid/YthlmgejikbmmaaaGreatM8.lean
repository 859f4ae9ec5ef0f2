/-
  Contracts of the functions that the statements reach, in the order in which they are built: KerD, KerE, KerF, KerG, RatQ, RatR.
-/
import Derived.Test.YthlmgejikbmmaaaGreatM7
import Derived.Test.YthlmgejikbmmaaaGreatM4
set_option linter.unusedVariables false
set_option linter.unusedSimpArgs false
set_option linter.constructorNameAsVariable false
set_option linter.deprecated false

/-
  The walk of kernel.fits at OpGemm: by contract.
-/
namespace Go.Proofs.YthlmgejikbmmaaaGreat
open Go.RowKit

/-- A struct of eleven cells in block g. -/
structure Box11 (w : World) (g : Nat) (p0 p1 p2 p3 p4 p5 p6 p7 p8 p9 p10 : Value) : Prop where
  c0 : w.cell? ⟨g, 0, none⟩ = some p0
  c1 : w.cell? ⟨g, 1, none⟩ = some p1
  c2 : w.cell? ⟨g, 2, none⟩ = some p2
  c3 : w.cell? ⟨g, 3, none⟩ = some p3
  c4 : w.cell? ⟨g, 4, none⟩ = some p4
  c5 : w.cell? ⟨g, 5, none⟩ = some p5
  c6 : w.cell? ⟨g, 6, none⟩ = some p6
  c7 : w.cell? ⟨g, 7, none⟩ = some p7
  c8 : w.cell? ⟨g, 8, none⟩ = some p8
  c9 : w.cell? ⟨g, 9, none⟩ = some p9
  c10 : w.cell? ⟨g, 10, none⟩ = some p10
  lt : g < w.heap.size
theorem Box11.below {w w' : World} {g : Nat} {p0 p1 p2 p3 p4 p5 p6 p7 p8 p9 p10 : Value} (h : Box11 w g p0 p1 p2 p3 p4 p5 p6 p7 p8 p9 p10) (hb : Below w.heap.size w w') : Box11 w' g p0 p1 p2 p3 p4 p5 p6 p7 p8 p9 p10 :=
  ⟨(hb.cell h.lt).trans h.c0, (hb.cell h.lt).trans h.c1, (hb.cell h.lt).trans h.c2, (hb.cell h.lt).trans h.c3, (hb.cell h.lt).trans h.c4, (hb.cell h.lt).trans h.c5, (hb.cell h.lt).trans h.c6, (hb.cell h.lt).trans h.c7, (hb.cell h.lt).trans h.c8, (hb.cell h.lt).trans h.c9, (hb.cell h.lt).trans h.c10, Nat.lt_of_lt_of_le h.lt hb.size⟩
theorem Box11.alloc (w : World) (p0 p1 p2 p3 p4 p5 p6 p7 p8 p9 p10 : Value) (T : Nat) : Box11 (w.alloc (.cells #[p0, p1, p2, p3, p4, p5, p6, p7, p8, p9, p10] T)) w.heap.size p0 p1 p2 p3 p4 p5 p6 p7 p8 p9 p10 := by
  refine ⟨?_, ?_, ?_, ?_, ?_, ?_, ?_, ?_, ?_, ?_, ?_, by simp⟩ <;> (rw [World.cell?_alloc_at _ _ _ _ rfl]; rfl)

/-- The sizes of OpGemm's operands. -/
theorem gemm_bd {n c i : Int} {l3 : Nat} (hn1 : 1 ≤ n) (hn2 : n ≤ 262144) (hc1 : 1 ≤ c) (hc2 : c ≤ 262144) : n.tmod c = n % c ∧ n.tdiv c = n / c ∧ 0 ≤ n / c ∧ n / c ≤ 262144 ∧ 0 ≤ n % c ∧ n % c ≤ 262144 := by
  have h1 := Int.emod_nonneg n (show c ≠ 0 by omega)
  have h2 := Int.emod_lt_of_pos n (show 0 < c by omega)
  have h3 : 0 ≤ n / c := Int.ediv_nonneg (by omega) (by omega)
  have h4 : n / c ≤ n := Int.ediv_le_self _ (by omega)
  exact ⟨Int.tmod_eq_emod_of_nonneg (by omega), Int.tdiv_eq_ediv_of_nonneg (by omega), h3, by omega, h1, by omega⟩

set_option maxRecDepth 100000 in
set_option maxHeartbeats 3200000 in
theorem kFits2_b (d s o c i mu h : Int) (a1 a2 a3 : Option Addr) (l1 l2 l3 c1 c2 c3 : Nat) (hl1 : l1 ≤ 9223372036854775807) (hl2 : l2 ≤ 9223372036854775807) (hl3 : l3 ≤ 9223372036854775807) (n m t : Int) (hn1 : 1 ≤ n) (hn2 : n ≤ 262144) (hb0 : ¬ (o = 0 ∧ mu = 0 ∧ h = 0 ∧ l1 = 0)) (w : World) :
    Calls Tryz.prog 16 #[.agg #[.int .i64 2, .int .i64 d, .int .i64 s, .int .i64 o, .int .i64 c, .int .i64 i, .slice a1 l1 c1, .slice a2 l2 c2, .slice a3 l3 c3, .int .i64 mu, .int .i64 h], .int .i64 n, .int .i64 m, .int .i64 t] w
      fun e w' => e = .returned (.bool false) ∧ Below w.heap.size w w' := by
  have HKB : Hid (∀ wv, Calls Tryz.prog 25 #[.agg #[.int .i64 0, .int .i64 0, .int .i64 0, .int .i64 o, .int .i64 0, .int .i64 0, .slice a1 l1 c1, .slice none 0 0, .slice none 0 0, .int .i64 mu, .int .i64 h]] wv fun e w' => e = .returned (.bool false) ∧ Below wv.heap.size wv w') := by
    intro wv
    refine (kBare 0 0 0 o 0 0 mu h a1 none none l1 0 0 c1 0 0 hl1 (Nat.zero_le _) (Nat.zero_le _) wv).mono ?_
    rintro e w1 ⟨rfl, hb⟩
    exact ⟨ret_bool (by rw [decide_eq_false_iff_not]; omega), hb⟩
  clear hb0
  go_enter Tryz.func16, Tryz.ntmps16
  go_wp2
  have hb4' := (Box11.alloc w (.int .i64 2) (.int .i64 d) (.int .i64 s) (.int .i64 o) (.int .i64 c) (.int .i64 i) (.slice a1 l1 c1) (.slice a2 l2 c2) (.slice a3 l3 c3) (.int .i64 mu) (.int .i64 h) 40).below ((Below.refl _ _).alloc (Nat.le_refl _) (.cells #[.int .i64 0, .int .i64 0, .int .i64 0, .int .i64 o, .int .i64 0, .int .i64 0, .slice a1 l1 c1, .slice none 0 0, .slice none 0 0, .int .i64 mu, .int .i64 h] 40))
  have hb9 := Box11.alloc (w.alloc (.cells #[.int .i64 2, .int .i64 d, .int .i64 s, .int .i64 o, .int .i64 c, .int .i64 i, .slice a1 l1 c1, .slice a2 l2 c2, .slice a3 l3 c3, .int .i64 mu, .int .i64 h] 40)) (.int .i64 0) (.int .i64 0) (.int .i64 0) (.int .i64 o) (.int .i64 0) (.int .i64 0) (.slice a1 l1 c1) (.slice none 0 0) (.slice none 0 0) (.int .i64 mu) (.int .i64 h) 40
  have hB0 : Below w.heap.size w ((w.alloc (.cells #[.int .i64 2, .int .i64 d, .int .i64 s, .int .i64 o, .int .i64 c, .int .i64 i, .slice a1 l1 c1, .slice a2 l2 c2, .slice a3 l3 c3, .int .i64 mu, .int .i64 h] 40)).alloc (.cells #[.int .i64 0, .int .i64 0, .int .i64 0, .int .i64 o, .int .i64 0, .int .i64 0, .slice a1 l1 c1, .slice none 0 0, .slice none 0 0, .int .i64 mu, .int .i64 h] 40)) := ((Below.refl _ _).alloc (Nat.le_refl _) _).alloc (by simp) _
  simp only [World.size_alloc] at hb9
  generalize (w.alloc (.cells #[.int .i64 2, .int .i64 d, .int .i64 s, .int .i64 o, .int .i64 c, .int .i64 i, .slice a1 l1 c1, .slice a2 l2 c2, .slice a3 l3 c3, .int .i64 mu, .int .i64 h] 40)).alloc (.cells #[.int .i64 0, .int .i64 0, .int .i64 0, .int .i64 o, .int .i64 0, .int .i64 0, .slice a1 l1 c1, .slice none 0 0, .slice none 0 0, .int .i64 mu, .int .i64 h] 40) = W at *
  have z0 := ext_cell hb9.c0 hb9.lt
  have z1 := ext_cell hb9.c1 hb9.lt
  have z2 := ext_cell hb9.c2 hb9.lt
  have z3 := ext_cell hb9.c3 hb9.lt
  have z4 := ext_cell hb9.c4 hb9.lt
  have z5 := ext_cell hb9.c5 hb9.lt
  have z6 := ext_cell hb9.c6 hb9.lt
  have z7 := ext_cell hb9.c7 hb9.lt
  have z8 := ext_cell hb9.c8 hb9.lt
  have z9 := ext_cell hb9.c9 hb9.lt
  have z10 := ext_cell hb9.c10 hb9.lt
  have y4 := ext_cell hb4'.c4 hb4'.lt
  have y5 := ext_cell hb4'.c5 hb4'.lt
  have y7 := ext_cell hb4'.c7 hb4'.lt
  have y8 := ext_cell hb4'.c8 hb4'.lt
  have HB := Lib.hid hB0
  clear hb4' hb9 hB0
  refine wp_region_quiet_ext (by kernel_rfl) (by kernel_rfl) ?_
  repeat (go_big_quiet_step (first | (go_at_call 25; exact Calls.ext_of (HKB.out _))))
  refine wpQuiet_nil ?_
  intro _ hw'
  obtain ⟨nq, hw''⟩ := hw'
  subst hw''
  have HE := Lib.hid (HB.out.trans ((ext_below W nq).mono HB.out.size))
  generalize ext W nq = w2 at *
  go_wp2
  go_ret
  exact ⟨rfl, HE.out⟩

set_option maxRecDepth 100000 in
set_option maxHeartbeats 3200000 in
theorem kFits2_c (d s o c i mu h : Int) (a1 a2 a3 : Option Addr) (l1 l2 l3 c1 c2 c3 : Nat) (hl1 : l1 ≤ 9223372036854775807) (hl2 : l2 ≤ 9223372036854775807) (hl3 : l3 ≤ 9223372036854775807) (n m t : Int) (hn1 : 1 ≤ n) (hn2 : n ≤ 262144) (hb0 : o = 0 ∧ mu = 0 ∧ h = 0 ∧ l1 = 0) (hc0 : ¬ (1 ≤ c ∧ c ≤ 262144)) (w : World) :
    Calls Tryz.prog 16 #[.agg #[.int .i64 2, .int .i64 d, .int .i64 s, .int .i64 o, .int .i64 c, .int .i64 i, .slice a1 l1 c1, .slice a2 l2 c2, .slice a3 l3 c3, .int .i64 mu, .int .i64 h], .int .i64 n, .int .i64 m, .int .i64 t] w
      fun e w' => e = .returned (.bool false) ∧ Below w.heap.size w w' := by
  have HKB : Hid (∀ wv, Calls Tryz.prog 25 #[.agg #[.int .i64 0, .int .i64 0, .int .i64 0, .int .i64 o, .int .i64 0, .int .i64 0, .slice a1 l1 c1, .slice none 0 0, .slice none 0 0, .int .i64 mu, .int .i64 h]] wv fun e w' => e = .returned (.bool true) ∧ Below wv.heap.size wv w') := by
    intro wv
    refine (kBare 0 0 0 o 0 0 mu h a1 none none l1 0 0 c1 0 0 hl1 (Nat.zero_le _) (Nat.zero_le _) wv).mono ?_
    rintro e w1 ⟨rfl, hb⟩
    exact ⟨ret_bool (by rw [decide_eq_true_eq]; omega), hb⟩
  have HWC : Hid (∀ wv, Calls Tryz.prog 15 #[.int .i64 c, .int .i64 1, .int .i64 262144] wv fun e w' => e = .returned (.bool false) ∧ wv = w') := by
    intro wv
    refine (kWithin c 1 262144 wv).mono ?_
    rintro e w1 ⟨rfl, rfl⟩
    exact ⟨ret_bool (by rw [← Bool.not_eq_true, wthn_iff]; omega), rfl⟩
  clear hb0 hc0
  go_enter Tryz.func16, Tryz.ntmps16
  go_wp2
  have hb4' := (Box11.alloc w (.int .i64 2) (.int .i64 d) (.int .i64 s) (.int .i64 o) (.int .i64 c) (.int .i64 i) (.slice a1 l1 c1) (.slice a2 l2 c2) (.slice a3 l3 c3) (.int .i64 mu) (.int .i64 h) 40).below ((Below.refl _ _).alloc (Nat.le_refl _) (.cells #[.int .i64 0, .int .i64 0, .int .i64 0, .int .i64 o, .int .i64 0, .int .i64 0, .slice a1 l1 c1, .slice none 0 0, .slice none 0 0, .int .i64 mu, .int .i64 h] 40))
  have hb9 := Box11.alloc (w.alloc (.cells #[.int .i64 2, .int .i64 d, .int .i64 s, .int .i64 o, .int .i64 c, .int .i64 i, .slice a1 l1 c1, .slice a2 l2 c2, .slice a3 l3 c3, .int .i64 mu, .int .i64 h] 40)) (.int .i64 0) (.int .i64 0) (.int .i64 0) (.int .i64 o) (.int .i64 0) (.int .i64 0) (.slice a1 l1 c1) (.slice none 0 0) (.slice none 0 0) (.int .i64 mu) (.int .i64 h) 40
  have hB0 : Below w.heap.size w ((w.alloc (.cells #[.int .i64 2, .int .i64 d, .int .i64 s, .int .i64 o, .int .i64 c, .int .i64 i, .slice a1 l1 c1, .slice a2 l2 c2, .slice a3 l3 c3, .int .i64 mu, .int .i64 h] 40)).alloc (.cells #[.int .i64 0, .int .i64 0, .int .i64 0, .int .i64 o, .int .i64 0, .int .i64 0, .slice a1 l1 c1, .slice none 0 0, .slice none 0 0, .int .i64 mu, .int .i64 h] 40)) := ((Below.refl _ _).alloc (Nat.le_refl _) _).alloc (by simp) _
  simp only [World.size_alloc] at hb9
  generalize (w.alloc (.cells #[.int .i64 2, .int .i64 d, .int .i64 s, .int .i64 o, .int .i64 c, .int .i64 i, .slice a1 l1 c1, .slice a2 l2 c2, .slice a3 l3 c3, .int .i64 mu, .int .i64 h] 40)).alloc (.cells #[.int .i64 0, .int .i64 0, .int .i64 0, .int .i64 o, .int .i64 0, .int .i64 0, .slice a1 l1 c1, .slice none 0 0, .slice none 0 0, .int .i64 mu, .int .i64 h] 40) = W at *
  have z0 := ext_cell hb9.c0 hb9.lt
  have z1 := ext_cell hb9.c1 hb9.lt
  have z2 := ext_cell hb9.c2 hb9.lt
  have z3 := ext_cell hb9.c3 hb9.lt
  have z4 := ext_cell hb9.c4 hb9.lt
  have z5 := ext_cell hb9.c5 hb9.lt
  have z6 := ext_cell hb9.c6 hb9.lt
  have z7 := ext_cell hb9.c7 hb9.lt
  have z8 := ext_cell hb9.c8 hb9.lt
  have z9 := ext_cell hb9.c9 hb9.lt
  have z10 := ext_cell hb9.c10 hb9.lt
  have y4 := ext_cell hb4'.c4 hb4'.lt
  have y5 := ext_cell hb4'.c5 hb4'.lt
  have y7 := ext_cell hb4'.c7 hb4'.lt
  have y8 := ext_cell hb4'.c8 hb4'.lt
  have HB := Lib.hid hB0
  clear hb4' hb9 hB0
  refine wp_region_quiet_ext (by kernel_rfl) (by kernel_rfl) ?_
  repeat (go_big_quiet_step (first | (go_at_call 25; exact Calls.ext_of (HKB.out _)) | (go_at_call 15; with_reducible exact Calls.ext_of_same (HWC.out _))))
  refine wpQuiet_nil ?_
  intro _ hw'
  obtain ⟨nq, hw''⟩ := hw'
  subst hw''
  have HE := Lib.hid (HB.out.trans ((ext_below W nq).mono HB.out.size))
  generalize ext W nq = w2 at *
  go_wp2
  go_ret
  exact ⟨rfl, HE.out⟩

set_option maxRecDepth 100000 in
set_option maxHeartbeats 3200000 in
theorem kFits2_i (d s o c i mu h : Int) (a1 a2 a3 : Option Addr) (l1 l2 l3 c1 c2 c3 : Nat) (hl1 : l1 ≤ 9223372036854775807) (hl2 : l2 ≤ 9223372036854775807) (hl3 : l3 ≤ 9223372036854775807) (n m t : Int) (hn1 : 1 ≤ n) (hn2 : n ≤ 262144) (hb0 : o = 0 ∧ mu = 0 ∧ h = 0 ∧ l1 = 0) (hc0 : 1 ≤ c ∧ c ≤ 262144) (hi0 : ¬ (1 ≤ i ∧ i ≤ 262144)) (w : World) :
    Calls Tryz.prog 16 #[.agg #[.int .i64 2, .int .i64 d, .int .i64 s, .int .i64 o, .int .i64 c, .int .i64 i, .slice a1 l1 c1, .slice a2 l2 c2, .slice a3 l3 c3, .int .i64 mu, .int .i64 h], .int .i64 n, .int .i64 m, .int .i64 t] w
      fun e w' => e = .returned (.bool false) ∧ Below w.heap.size w w' := by
  have HKB : Hid (∀ wv, Calls Tryz.prog 25 #[.agg #[.int .i64 0, .int .i64 0, .int .i64 0, .int .i64 o, .int .i64 0, .int .i64 0, .slice a1 l1 c1, .slice none 0 0, .slice none 0 0, .int .i64 mu, .int .i64 h]] wv fun e w' => e = .returned (.bool true) ∧ Below wv.heap.size wv w') := by
    intro wv
    refine (kBare 0 0 0 o 0 0 mu h a1 none none l1 0 0 c1 0 0 hl1 (Nat.zero_le _) (Nat.zero_le _) wv).mono ?_
    rintro e w1 ⟨rfl, hb⟩
    exact ⟨ret_bool (by rw [decide_eq_true_eq]; omega), hb⟩
  have HWC : Hid (∀ wv, Calls Tryz.prog 15 #[.int .i64 c, .int .i64 1, .int .i64 262144] wv fun e w' => e = .returned (.bool true) ∧ wv = w') := by
    intro wv
    refine (kWithin c 1 262144 wv).mono ?_
    rintro e w1 ⟨rfl, rfl⟩
    exact ⟨ret_bool (by rw [wthn_iff]; omega), rfl⟩
  have HWI : Hid (∀ wv, Calls Tryz.prog 15 #[.int .i64 i, .int .i64 1, .int .i64 262144] wv fun e w' => e = .returned (.bool false) ∧ wv = w') := by
    intro wv
    refine (kWithin i 1 262144 wv).mono ?_
    rintro e w1 ⟨rfl, rfl⟩
    exact ⟨ret_bool (by rw [← Bool.not_eq_true, wthn_iff]; omega), rfl⟩
  clear hb0 hc0 hi0
  go_enter Tryz.func16, Tryz.ntmps16
  go_wp2
  have hb4' := (Box11.alloc w (.int .i64 2) (.int .i64 d) (.int .i64 s) (.int .i64 o) (.int .i64 c) (.int .i64 i) (.slice a1 l1 c1) (.slice a2 l2 c2) (.slice a3 l3 c3) (.int .i64 mu) (.int .i64 h) 40).below ((Below.refl _ _).alloc (Nat.le_refl _) (.cells #[.int .i64 0, .int .i64 0, .int .i64 0, .int .i64 o, .int .i64 0, .int .i64 0, .slice a1 l1 c1, .slice none 0 0, .slice none 0 0, .int .i64 mu, .int .i64 h] 40))
  have hb9 := Box11.alloc (w.alloc (.cells #[.int .i64 2, .int .i64 d, .int .i64 s, .int .i64 o, .int .i64 c, .int .i64 i, .slice a1 l1 c1, .slice a2 l2 c2, .slice a3 l3 c3, .int .i64 mu, .int .i64 h] 40)) (.int .i64 0) (.int .i64 0) (.int .i64 0) (.int .i64 o) (.int .i64 0) (.int .i64 0) (.slice a1 l1 c1) (.slice none 0 0) (.slice none 0 0) (.int .i64 mu) (.int .i64 h) 40
  have hB0 : Below w.heap.size w ((w.alloc (.cells #[.int .i64 2, .int .i64 d, .int .i64 s, .int .i64 o, .int .i64 c, .int .i64 i, .slice a1 l1 c1, .slice a2 l2 c2, .slice a3 l3 c3, .int .i64 mu, .int .i64 h] 40)).alloc (.cells #[.int .i64 0, .int .i64 0, .int .i64 0, .int .i64 o, .int .i64 0, .int .i64 0, .slice a1 l1 c1, .slice none 0 0, .slice none 0 0, .int .i64 mu, .int .i64 h] 40)) := ((Below.refl _ _).alloc (Nat.le_refl _) _).alloc (by simp) _
  simp only [World.size_alloc] at hb9
  generalize (w.alloc (.cells #[.int .i64 2, .int .i64 d, .int .i64 s, .int .i64 o, .int .i64 c, .int .i64 i, .slice a1 l1 c1, .slice a2 l2 c2, .slice a3 l3 c3, .int .i64 mu, .int .i64 h] 40)).alloc (.cells #[.int .i64 0, .int .i64 0, .int .i64 0, .int .i64 o, .int .i64 0, .int .i64 0, .slice a1 l1 c1, .slice none 0 0, .slice none 0 0, .int .i64 mu, .int .i64 h] 40) = W at *
  have z0 := ext_cell hb9.c0 hb9.lt
  have z1 := ext_cell hb9.c1 hb9.lt
  have z2 := ext_cell hb9.c2 hb9.lt
  have z3 := ext_cell hb9.c3 hb9.lt
  have z4 := ext_cell hb9.c4 hb9.lt
  have z5 := ext_cell hb9.c5 hb9.lt
  have z6 := ext_cell hb9.c6 hb9.lt
  have z7 := ext_cell hb9.c7 hb9.lt
  have z8 := ext_cell hb9.c8 hb9.lt
  have z9 := ext_cell hb9.c9 hb9.lt
  have z10 := ext_cell hb9.c10 hb9.lt
  have y4 := ext_cell hb4'.c4 hb4'.lt
  have y5 := ext_cell hb4'.c5 hb4'.lt
  have y7 := ext_cell hb4'.c7 hb4'.lt
  have y8 := ext_cell hb4'.c8 hb4'.lt
  have HB := Lib.hid hB0
  clear hb4' hb9 hB0
  refine wp_region_quiet_ext (by kernel_rfl) (by kernel_rfl) ?_
  repeat (go_big_quiet_step (first | (go_at_call 25; exact Calls.ext_of (HKB.out _)) | (go_at_call 15; with_reducible exact Calls.ext_of_same (HWC.out _)) | (go_at_call 15; with_reducible exact Calls.ext_of_same (HWI.out _))))
  refine wpQuiet_nil ?_
  intro _ hw'
  obtain ⟨nq, hw''⟩ := hw'
  subst hw''
  have HE := Lib.hid (HB.out.trans ((ext_below W nq).mono HB.out.size))
  generalize ext W nq = w2 at *
  go_wp2
  go_ret
  exact ⟨rfl, HE.out⟩

set_option maxRecDepth 100000 in
set_option maxHeartbeats 3200000 in
theorem kFits2_1 (d s o c i mu h : Int) (a1 a2 a3 : Option Addr) (l1 l2 l3 c1 c2 c3 : Nat) (hl1 : l1 ≤ 9223372036854775807) (hl2 : l2 ≤ 9223372036854775807) (hl3 : l3 ≤ 9223372036854775807) (n m t : Int) (hn1 : 1 ≤ n) (hn2 : n ≤ 262144) (hb0 : o = 0 ∧ mu = 0 ∧ h = 0 ∧ l1 = 0) (hc0 : 1 ≤ c ∧ c ≤ 262144) (hi0 : 1 ≤ i ∧ i ≤ 262144) (ht1 : m ≠ i * c) (w : World) :
    Calls Tryz.prog 16 #[.agg #[.int .i64 2, .int .i64 d, .int .i64 s, .int .i64 o, .int .i64 c, .int .i64 i, .slice a1 l1 c1, .slice a2 l2 c2, .slice a3 l3 c3, .int .i64 mu, .int .i64 h], .int .i64 n, .int .i64 m, .int .i64 t] w
      fun e w' => e = .returned (.bool false) ∧ Below w.heap.size w w' := by
  have HKB : Hid (∀ wv, Calls Tryz.prog 25 #[.agg #[.int .i64 0, .int .i64 0, .int .i64 0, .int .i64 o, .int .i64 0, .int .i64 0, .slice a1 l1 c1, .slice none 0 0, .slice none 0 0, .int .i64 mu, .int .i64 h]] wv fun e w' => e = .returned (.bool true) ∧ Below wv.heap.size wv w') := by
    intro wv
    refine (kBare 0 0 0 o 0 0 mu h a1 none none l1 0 0 c1 0 0 hl1 (Nat.zero_le _) (Nat.zero_le _) wv).mono ?_
    rintro e w1 ⟨rfl, hb⟩
    exact ⟨ret_bool (by rw [decide_eq_true_eq]; omega), hb⟩
  have HWC : Hid (∀ wv, Calls Tryz.prog 15 #[.int .i64 c, .int .i64 1, .int .i64 262144] wv fun e w' => e = .returned (.bool true) ∧ wv = w') := by
    intro wv
    refine (kWithin c 1 262144 wv).mono ?_
    rintro e w1 ⟨rfl, rfl⟩
    exact ⟨ret_bool (by rw [wthn_iff]; omega), rfl⟩
  have HWI : Hid (∀ wv, Calls Tryz.prog 15 #[.int .i64 i, .int .i64 1, .int .i64 262144] wv fun e w' => e = .returned (.bool true) ∧ wv = w') := by
    intro wv
    refine (kWithin i 1 262144 wv).mono ?_
    rintro e w1 ⟨rfl, rfl⟩
    exact ⟨ret_bool (by rw [wthn_iff]; omega), rfl⟩
  obtain ⟨hc1, hc2⟩ := hc0
  obtain ⟨g1, g2, g3, g4, g5, g6⟩ := gemm_bd (l3 := l3) (i := i) hn1 hn2 hc1 hc2
  obtain ⟨p1, p2⟩ := mul_int_bd hi0.1 hi0.2 hc1 hc2
  have e1 : IntKind.i64.wrap (i * c) = i * c := IntWalk.i64_in _ (by omega)
  have e3 : IntKind.i64.wrap (n / c) = n / c := IntWalk.i64_in _ (by omega)
  have hcz : (c == 0) = false := by rw [beq_eq_false_iff_ne]; omega
  have hcz2 : ¬ c = 0 := by omega
  have t1 : (m == i * c) = false := by rw [beq_eq_false_iff_ne]; exact ht1
  clear hb0 hi0
  clear ht1
  go_enter Tryz.func16, Tryz.ntmps16
  go_wp2
  have hb4' := (Box11.alloc w (.int .i64 2) (.int .i64 d) (.int .i64 s) (.int .i64 o) (.int .i64 c) (.int .i64 i) (.slice a1 l1 c1) (.slice a2 l2 c2) (.slice a3 l3 c3) (.int .i64 mu) (.int .i64 h) 40).below ((Below.refl _ _).alloc (Nat.le_refl _) (.cells #[.int .i64 0, .int .i64 0, .int .i64 0, .int .i64 o, .int .i64 0, .int .i64 0, .slice a1 l1 c1, .slice none 0 0, .slice none 0 0, .int .i64 mu, .int .i64 h] 40))
  have hb9 := Box11.alloc (w.alloc (.cells #[.int .i64 2, .int .i64 d, .int .i64 s, .int .i64 o, .int .i64 c, .int .i64 i, .slice a1 l1 c1, .slice a2 l2 c2, .slice a3 l3 c3, .int .i64 mu, .int .i64 h] 40)) (.int .i64 0) (.int .i64 0) (.int .i64 0) (.int .i64 o) (.int .i64 0) (.int .i64 0) (.slice a1 l1 c1) (.slice none 0 0) (.slice none 0 0) (.int .i64 mu) (.int .i64 h) 40
  have hB0 : Below w.heap.size w ((w.alloc (.cells #[.int .i64 2, .int .i64 d, .int .i64 s, .int .i64 o, .int .i64 c, .int .i64 i, .slice a1 l1 c1, .slice a2 l2 c2, .slice a3 l3 c3, .int .i64 mu, .int .i64 h] 40)).alloc (.cells #[.int .i64 0, .int .i64 0, .int .i64 0, .int .i64 o, .int .i64 0, .int .i64 0, .slice a1 l1 c1, .slice none 0 0, .slice none 0 0, .int .i64 mu, .int .i64 h] 40)) := ((Below.refl _ _).alloc (Nat.le_refl _) _).alloc (by simp) _
  simp only [World.size_alloc] at hb9
  generalize (w.alloc (.cells #[.int .i64 2, .int .i64 d, .int .i64 s, .int .i64 o, .int .i64 c, .int .i64 i, .slice a1 l1 c1, .slice a2 l2 c2, .slice a3 l3 c3, .int .i64 mu, .int .i64 h] 40)).alloc (.cells #[.int .i64 0, .int .i64 0, .int .i64 0, .int .i64 o, .int .i64 0, .int .i64 0, .slice a1 l1 c1, .slice none 0 0, .slice none 0 0, .int .i64 mu, .int .i64 h] 40) = W at *
  have z0 := ext_cell hb9.c0 hb9.lt
  have z1 := ext_cell hb9.c1 hb9.lt
  have z2 := ext_cell hb9.c2 hb9.lt
  have z3 := ext_cell hb9.c3 hb9.lt
  have z4 := ext_cell hb9.c4 hb9.lt
  have z5 := ext_cell hb9.c5 hb9.lt
  have z6 := ext_cell hb9.c6 hb9.lt
  have z7 := ext_cell hb9.c7 hb9.lt
  have z8 := ext_cell hb9.c8 hb9.lt
  have z9 := ext_cell hb9.c9 hb9.lt
  have z10 := ext_cell hb9.c10 hb9.lt
  have y4 := ext_cell hb4'.c4 hb4'.lt
  have y5 := ext_cell hb4'.c5 hb4'.lt
  have y7 := ext_cell hb4'.c7 hb4'.lt
  have y8 := ext_cell hb4'.c8 hb4'.lt
  have HB := Lib.hid hB0
  clear hb4' hb9 hB0
  refine wp_region_quiet_ext (by kernel_rfl) (by kernel_rfl) ?_
  repeat (go_big_quiet_step (first | (go_at_call 25; exact Calls.ext_of (HKB.out _)) | (go_at_call 15; with_reducible exact Calls.ext_of_same (HWC.out _)) | (go_at_call 15; with_reducible exact Calls.ext_of_same (HWI.out _))))
  refine wpQuiet_nil ?_
  intro _ hw'
  obtain ⟨nq, hw''⟩ := hw'
  subst hw''
  have HE := Lib.hid (HB.out.trans ((ext_below W nq).mono HB.out.size))
  generalize ext W nq = w2 at *
  go_wp2
  go_ret
  exact ⟨rfl, HE.out⟩

set_option maxRecDepth 100000 in
set_option maxHeartbeats 3200000 in
theorem kFits2_2 (d s o c i mu h : Int) (a1 a2 a3 : Option Addr) (l1 l2 l3 c1 c2 c3 : Nat) (hl1 : l1 ≤ 9223372036854775807) (hl2 : l2 ≤ 9223372036854775807) (hl3 : l3 ≤ 9223372036854775807) (n m t : Int) (hn1 : 1 ≤ n) (hn2 : n ≤ 262144) (hb0 : o = 0 ∧ mu = 0 ∧ h = 0 ∧ l1 = 0) (hc0 : 1 ≤ c ∧ c ≤ 262144) (hi0 : 1 ≤ i ∧ i ≤ 262144) (ht1 : m = i * c) (ht2 : n % c ≠ 0) (w : World) :
    Calls Tryz.prog 16 #[.agg #[.int .i64 2, .int .i64 d, .int .i64 s, .int .i64 o, .int .i64 c, .int .i64 i, .slice a1 l1 c1, .slice a2 l2 c2, .slice a3 l3 c3, .int .i64 mu, .int .i64 h], .int .i64 n, .int .i64 m, .int .i64 t] w
      fun e w' => e = .returned (.bool false) ∧ Below w.heap.size w w' := by
  have HKB : Hid (∀ wv, Calls Tryz.prog 25 #[.agg #[.int .i64 0, .int .i64 0, .int .i64 0, .int .i64 o, .int .i64 0, .int .i64 0, .slice a1 l1 c1, .slice none 0 0, .slice none 0 0, .int .i64 mu, .int .i64 h]] wv fun e w' => e = .returned (.bool true) ∧ Below wv.heap.size wv w') := by
    intro wv
    refine (kBare 0 0 0 o 0 0 mu h a1 none none l1 0 0 c1 0 0 hl1 (Nat.zero_le _) (Nat.zero_le _) wv).mono ?_
    rintro e w1 ⟨rfl, hb⟩
    exact ⟨ret_bool (by rw [decide_eq_true_eq]; omega), hb⟩
  have HWC : Hid (∀ wv, Calls Tryz.prog 15 #[.int .i64 c, .int .i64 1, .int .i64 262144] wv fun e w' => e = .returned (.bool true) ∧ wv = w') := by
    intro wv
    refine (kWithin c 1 262144 wv).mono ?_
    rintro e w1 ⟨rfl, rfl⟩
    exact ⟨ret_bool (by rw [wthn_iff]; omega), rfl⟩
  have HWI : Hid (∀ wv, Calls Tryz.prog 15 #[.int .i64 i, .int .i64 1, .int .i64 262144] wv fun e w' => e = .returned (.bool true) ∧ wv = w') := by
    intro wv
    refine (kWithin i 1 262144 wv).mono ?_
    rintro e w1 ⟨rfl, rfl⟩
    exact ⟨ret_bool (by rw [wthn_iff]; omega), rfl⟩
  obtain ⟨hc1, hc2⟩ := hc0
  obtain ⟨g1, g2, g3, g4, g5, g6⟩ := gemm_bd (l3 := l3) (i := i) hn1 hn2 hc1 hc2
  obtain ⟨p1, p2⟩ := mul_int_bd hi0.1 hi0.2 hc1 hc2
  have e1 : IntKind.i64.wrap (i * c) = i * c := IntWalk.i64_in _ (by omega)
  have e3 : IntKind.i64.wrap (n / c) = n / c := IntWalk.i64_in _ (by omega)
  have hcz : (c == 0) = false := by rw [beq_eq_false_iff_ne]; omega
  have hcz2 : ¬ c = 0 := by omega
  have t1 : (m == i * c) = true := by rw [beq_iff_eq]; exact ht1
  have t2 : (n % c == 0) = false := by rw [beq_eq_false_iff_ne]; exact ht2
  clear hb0 hi0
  clear ht1 ht2
  go_enter Tryz.func16, Tryz.ntmps16
  go_wp2
  have hb4' := (Box11.alloc w (.int .i64 2) (.int .i64 d) (.int .i64 s) (.int .i64 o) (.int .i64 c) (.int .i64 i) (.slice a1 l1 c1) (.slice a2 l2 c2) (.slice a3 l3 c3) (.int .i64 mu) (.int .i64 h) 40).below ((Below.refl _ _).alloc (Nat.le_refl _) (.cells #[.int .i64 0, .int .i64 0, .int .i64 0, .int .i64 o, .int .i64 0, .int .i64 0, .slice a1 l1 c1, .slice none 0 0, .slice none 0 0, .int .i64 mu, .int .i64 h] 40))
  have hb9 := Box11.alloc (w.alloc (.cells #[.int .i64 2, .int .i64 d, .int .i64 s, .int .i64 o, .int .i64 c, .int .i64 i, .slice a1 l1 c1, .slice a2 l2 c2, .slice a3 l3 c3, .int .i64 mu, .int .i64 h] 40)) (.int .i64 0) (.int .i64 0) (.int .i64 0) (.int .i64 o) (.int .i64 0) (.int .i64 0) (.slice a1 l1 c1) (.slice none 0 0) (.slice none 0 0) (.int .i64 mu) (.int .i64 h) 40
  have hB0 : Below w.heap.size w ((w.alloc (.cells #[.int .i64 2, .int .i64 d, .int .i64 s, .int .i64 o, .int .i64 c, .int .i64 i, .slice a1 l1 c1, .slice a2 l2 c2, .slice a3 l3 c3, .int .i64 mu, .int .i64 h] 40)).alloc (.cells #[.int .i64 0, .int .i64 0, .int .i64 0, .int .i64 o, .int .i64 0, .int .i64 0, .slice a1 l1 c1, .slice none 0 0, .slice none 0 0, .int .i64 mu, .int .i64 h] 40)) := ((Below.refl _ _).alloc (Nat.le_refl _) _).alloc (by simp) _
  simp only [World.size_alloc] at hb9
  generalize (w.alloc (.cells #[.int .i64 2, .int .i64 d, .int .i64 s, .int .i64 o, .int .i64 c, .int .i64 i, .slice a1 l1 c1, .slice a2 l2 c2, .slice a3 l3 c3, .int .i64 mu, .int .i64 h] 40)).alloc (.cells #[.int .i64 0, .int .i64 0, .int .i64 0, .int .i64 o, .int .i64 0, .int .i64 0, .slice a1 l1 c1, .slice none 0 0, .slice none 0 0, .int .i64 mu, .int .i64 h] 40) = W at *
  have z0 := ext_cell hb9.c0 hb9.lt
  have z1 := ext_cell hb9.c1 hb9.lt
  have z2 := ext_cell hb9.c2 hb9.lt
  have z3 := ext_cell hb9.c3 hb9.lt
  have z4 := ext_cell hb9.c4 hb9.lt
  have z5 := ext_cell hb9.c5 hb9.lt
  have z6 := ext_cell hb9.c6 hb9.lt
  have z7 := ext_cell hb9.c7 hb9.lt
  have z8 := ext_cell hb9.c8 hb9.lt
  have z9 := ext_cell hb9.c9 hb9.lt
  have z10 := ext_cell hb9.c10 hb9.lt
  have y4 := ext_cell hb4'.c4 hb4'.lt
  have y5 := ext_cell hb4'.c5 hb4'.lt
  have y7 := ext_cell hb4'.c7 hb4'.lt
  have y8 := ext_cell hb4'.c8 hb4'.lt
  have HB := Lib.hid hB0
  clear hb4' hb9 hB0
  refine wp_region_quiet_ext (by kernel_rfl) (by kernel_rfl) ?_
  repeat (go_big_quiet_step (first | (go_at_call 25; exact Calls.ext_of (HKB.out _)) | (go_at_call 15; with_reducible exact Calls.ext_of_same (HWC.out _)) | (go_at_call 15; with_reducible exact Calls.ext_of_same (HWI.out _))))
  refine wpQuiet_nil ?_
  intro _ hw'
  obtain ⟨nq, hw''⟩ := hw'
  subst hw''
  have HE := Lib.hid (HB.out.trans ((ext_below W nq).mono HB.out.size))
  generalize ext W nq = w2 at *
  go_wp2
  go_ret
  exact ⟨rfl, HE.out⟩

set_option maxRecDepth 100000 in
set_option maxHeartbeats 3200000 in
theorem kFits2_3 (d s o c i mu h : Int) (a1 a2 a3 : Option Addr) (l1 l2 l3 c1 c2 c3 : Nat) (hl1 : l1 ≤ 9223372036854775807) (hl2 : l2 ≤ 9223372036854775807) (hl3 : l3 ≤ 9223372036854775807) (n m t : Int) (hn1 : 1 ≤ n) (hn2 : n ≤ 262144) (hb0 : o = 0 ∧ mu = 0 ∧ h = 0 ∧ l1 = 0) (hc0 : 1 ≤ c ∧ c ≤ 262144) (hi0 : 1 ≤ i ∧ i ≤ 262144) (ht1 : m = i * c) (ht2 : n % c = 0) (ht3 : (l3 : Int) ≠ n / c) (w : World) :
    Calls Tryz.prog 16 #[.agg #[.int .i64 2, .int .i64 d, .int .i64 s, .int .i64 o, .int .i64 c, .int .i64 i, .slice a1 l1 c1, .slice a2 l2 c2, .slice a3 l3 c3, .int .i64 mu, .int .i64 h], .int .i64 n, .int .i64 m, .int .i64 t] w
      fun e w' => e = .returned (.bool false) ∧ Below w.heap.size w w' := by
  have HKB : Hid (∀ wv, Calls Tryz.prog 25 #[.agg #[.int .i64 0, .int .i64 0, .int .i64 0, .int .i64 o, .int .i64 0, .int .i64 0, .slice a1 l1 c1, .slice none 0 0, .slice none 0 0, .int .i64 mu, .int .i64 h]] wv fun e w' => e = .returned (.bool true) ∧ Below wv.heap.size wv w') := by
    intro wv
    refine (kBare 0 0 0 o 0 0 mu h a1 none none l1 0 0 c1 0 0 hl1 (Nat.zero_le _) (Nat.zero_le _) wv).mono ?_
    rintro e w1 ⟨rfl, hb⟩
    exact ⟨ret_bool (by rw [decide_eq_true_eq]; omega), hb⟩
  have HWC : Hid (∀ wv, Calls Tryz.prog 15 #[.int .i64 c, .int .i64 1, .int .i64 262144] wv fun e w' => e = .returned (.bool true) ∧ wv = w') := by
    intro wv
    refine (kWithin c 1 262144 wv).mono ?_
    rintro e w1 ⟨rfl, rfl⟩
    exact ⟨ret_bool (by rw [wthn_iff]; omega), rfl⟩
  have HWI : Hid (∀ wv, Calls Tryz.prog 15 #[.int .i64 i, .int .i64 1, .int .i64 262144] wv fun e w' => e = .returned (.bool true) ∧ wv = w') := by
    intro wv
    refine (kWithin i 1 262144 wv).mono ?_
    rintro e w1 ⟨rfl, rfl⟩
    exact ⟨ret_bool (by rw [wthn_iff]; omega), rfl⟩
  obtain ⟨hc1, hc2⟩ := hc0
  obtain ⟨g1, g2, g3, g4, g5, g6⟩ := gemm_bd (l3 := l3) (i := i) hn1 hn2 hc1 hc2
  obtain ⟨p1, p2⟩ := mul_int_bd hi0.1 hi0.2 hc1 hc2
  have e1 : IntKind.i64.wrap (i * c) = i * c := IntWalk.i64_in _ (by omega)
  have e3 : IntKind.i64.wrap (n / c) = n / c := IntWalk.i64_in _ (by omega)
  have hcz : (c == 0) = false := by rw [beq_eq_false_iff_ne]; omega
  have hcz2 : ¬ c = 0 := by omega
  have t1 : (m == i * c) = true := by rw [beq_iff_eq]; exact ht1
  have t2 : (n % c == 0) = true := by rw [beq_iff_eq]; exact ht2
  have t3 : ((l3 : Int) == n / c) = false := by rw [beq_eq_false_iff_ne]; exact ht3
  clear hb0 hi0
  clear ht1 ht2 ht3
  go_enter Tryz.func16, Tryz.ntmps16
  go_wp2
  have hb4' := (Box11.alloc w (.int .i64 2) (.int .i64 d) (.int .i64 s) (.int .i64 o) (.int .i64 c) (.int .i64 i) (.slice a1 l1 c1) (.slice a2 l2 c2) (.slice a3 l3 c3) (.int .i64 mu) (.int .i64 h) 40).below ((Below.refl _ _).alloc (Nat.le_refl _) (.cells #[.int .i64 0, .int .i64 0, .int .i64 0, .int .i64 o, .int .i64 0, .int .i64 0, .slice a1 l1 c1, .slice none 0 0, .slice none 0 0, .int .i64 mu, .int .i64 h] 40))
  have hb9 := Box11.alloc (w.alloc (.cells #[.int .i64 2, .int .i64 d, .int .i64 s, .int .i64 o, .int .i64 c, .int .i64 i, .slice a1 l1 c1, .slice a2 l2 c2, .slice a3 l3 c3, .int .i64 mu, .int .i64 h] 40)) (.int .i64 0) (.int .i64 0) (.int .i64 0) (.int .i64 o) (.int .i64 0) (.int .i64 0) (.slice a1 l1 c1) (.slice none 0 0) (.slice none 0 0) (.int .i64 mu) (.int .i64 h) 40
  have hB0 : Below w.heap.size w ((w.alloc (.cells #[.int .i64 2, .int .i64 d, .int .i64 s, .int .i64 o, .int .i64 c, .int .i64 i, .slice a1 l1 c1, .slice a2 l2 c2, .slice a3 l3 c3, .int .i64 mu, .int .i64 h] 40)).alloc (.cells #[.int .i64 0, .int .i64 0, .int .i64 0, .int .i64 o, .int .i64 0, .int .i64 0, .slice a1 l1 c1, .slice none 0 0, .slice none 0 0, .int .i64 mu, .int .i64 h] 40)) := ((Below.refl _ _).alloc (Nat.le_refl _) _).alloc (by simp) _
  simp only [World.size_alloc] at hb9
  generalize (w.alloc (.cells #[.int .i64 2, .int .i64 d, .int .i64 s, .int .i64 o, .int .i64 c, .int .i64 i, .slice a1 l1 c1, .slice a2 l2 c2, .slice a3 l3 c3, .int .i64 mu, .int .i64 h] 40)).alloc (.cells #[.int .i64 0, .int .i64 0, .int .i64 0, .int .i64 o, .int .i64 0, .int .i64 0, .slice a1 l1 c1, .slice none 0 0, .slice none 0 0, .int .i64 mu, .int .i64 h] 40) = W at *
  have z0 := ext_cell hb9.c0 hb9.lt
  have z1 := ext_cell hb9.c1 hb9.lt
  have z2 := ext_cell hb9.c2 hb9.lt
  have z3 := ext_cell hb9.c3 hb9.lt
  have z4 := ext_cell hb9.c4 hb9.lt
  have z5 := ext_cell hb9.c5 hb9.lt
  have z6 := ext_cell hb9.c6 hb9.lt
  have z7 := ext_cell hb9.c7 hb9.lt
  have z8 := ext_cell hb9.c8 hb9.lt
  have z9 := ext_cell hb9.c9 hb9.lt
  have z10 := ext_cell hb9.c10 hb9.lt
  have y4 := ext_cell hb4'.c4 hb4'.lt
  have y5 := ext_cell hb4'.c5 hb4'.lt
  have y7 := ext_cell hb4'.c7 hb4'.lt
  have y8 := ext_cell hb4'.c8 hb4'.lt
  have HB := Lib.hid hB0
  clear hb4' hb9 hB0
  refine wp_region_quiet_ext (by kernel_rfl) (by kernel_rfl) ?_
  repeat (go_big_quiet_step (first | (go_at_call 25; exact Calls.ext_of (HKB.out _)) | (go_at_call 15; with_reducible exact Calls.ext_of_same (HWC.out _)) | (go_at_call 15; with_reducible exact Calls.ext_of_same (HWI.out _))))
  refine wpQuiet_nil ?_
  intro _ hw'
  obtain ⟨nq, hw''⟩ := hw'
  subst hw''
  have HE := Lib.hid (HB.out.trans ((ext_below W nq).mono HB.out.size))
  generalize ext W nq = w2 at *
  go_wp2
  go_ret
  exact ⟨rfl, HE.out⟩

set_option maxRecDepth 100000 in
set_option maxHeartbeats 3200000 in
theorem kFits2_4 (d s o c i mu h : Int) (a1 a2 a3 : Option Addr) (l1 l2 l3 c1 c2 c3 : Nat) (hl1 : l1 ≤ 9223372036854775807) (hl2 : l2 ≤ 9223372036854775807) (hl3 : l3 ≤ 9223372036854775807) (n m t : Int) (hn1 : 1 ≤ n) (hn2 : n ≤ 262144) (hb0 : o = 0 ∧ mu = 0 ∧ h = 0 ∧ l1 = 0) (hc0 : 1 ≤ c ∧ c ≤ 262144) (hi0 : 1 ≤ i ∧ i ≤ 262144) (ht1 : m = i * c) (ht2 : n % c = 0) (ht3 : (l3 : Int) = n / c) (ht4 : (l2 : Int) ≠ l3 * i) (w : World) :
    Calls Tryz.prog 16 #[.agg #[.int .i64 2, .int .i64 d, .int .i64 s, .int .i64 o, .int .i64 c, .int .i64 i, .slice a1 l1 c1, .slice a2 l2 c2, .slice a3 l3 c3, .int .i64 mu, .int .i64 h], .int .i64 n, .int .i64 m, .int .i64 t] w
      fun e w' => e = .returned (.bool false) ∧ Below w.heap.size w w' := by
  have HKB : Hid (∀ wv, Calls Tryz.prog 25 #[.agg #[.int .i64 0, .int .i64 0, .int .i64 0, .int .i64 o, .int .i64 0, .int .i64 0, .slice a1 l1 c1, .slice none 0 0, .slice none 0 0, .int .i64 mu, .int .i64 h]] wv fun e w' => e = .returned (.bool true) ∧ Below wv.heap.size wv w') := by
    intro wv
    refine (kBare 0 0 0 o 0 0 mu h a1 none none l1 0 0 c1 0 0 hl1 (Nat.zero_le _) (Nat.zero_le _) wv).mono ?_
    rintro e w1 ⟨rfl, hb⟩
    exact ⟨ret_bool (by rw [decide_eq_true_eq]; omega), hb⟩
  have HWC : Hid (∀ wv, Calls Tryz.prog 15 #[.int .i64 c, .int .i64 1, .int .i64 262144] wv fun e w' => e = .returned (.bool true) ∧ wv = w') := by
    intro wv
    refine (kWithin c 1 262144 wv).mono ?_
    rintro e w1 ⟨rfl, rfl⟩
    exact ⟨ret_bool (by rw [wthn_iff]; omega), rfl⟩
  have HWI : Hid (∀ wv, Calls Tryz.prog 15 #[.int .i64 i, .int .i64 1, .int .i64 262144] wv fun e w' => e = .returned (.bool true) ∧ wv = w') := by
    intro wv
    refine (kWithin i 1 262144 wv).mono ?_
    rintro e w1 ⟨rfl, rfl⟩
    exact ⟨ret_bool (by rw [wthn_iff]; omega), rfl⟩
  obtain ⟨hc1, hc2⟩ := hc0
  obtain ⟨g1, g2, g3, g4, g5, g6⟩ := gemm_bd (l3 := l3) (i := i) hn1 hn2 hc1 hc2
  obtain ⟨p1, p2⟩ := mul_int_bd hi0.1 hi0.2 hc1 hc2
  have e1 : IntKind.i64.wrap (i * c) = i * c := IntWalk.i64_in _ (by omega)
  have e3 : IntKind.i64.wrap (n / c) = n / c := IntWalk.i64_in _ (by omega)
  have hcz : (c == 0) = false := by rw [beq_eq_false_iff_ne]; omega
  have hcz2 : ¬ c = 0 := by omega
  have e4 : IntKind.i64.wrap ((l3 : Int) * i) = l3 * i := IntWalk.i64_in _ (by rw [ht3]; exact ⟨by have := Int.mul_nonneg g3 (show 0 ≤ i by omega); omega, by have := Int.mul_le_mul g4 hi0.2 (by omega) (by omega); omega⟩)
  have t1 : (m == i * c) = true := by rw [beq_iff_eq]; exact ht1
  have t2 : (n % c == 0) = true := by rw [beq_iff_eq]; exact ht2
  have t3 : ((l3 : Int) == n / c) = true := by rw [beq_iff_eq]; exact ht3
  have t4 : ((l2 : Int) == l3 * i) = false := by rw [beq_eq_false_iff_ne]; exact ht4
  clear hb0 hi0
  clear ht1 ht2 ht3 ht4
  go_enter Tryz.func16, Tryz.ntmps16
  go_wp2
  have hb4' := (Box11.alloc w (.int .i64 2) (.int .i64 d) (.int .i64 s) (.int .i64 o) (.int .i64 c) (.int .i64 i) (.slice a1 l1 c1) (.slice a2 l2 c2) (.slice a3 l3 c3) (.int .i64 mu) (.int .i64 h) 40).below ((Below.refl _ _).alloc (Nat.le_refl _) (.cells #[.int .i64 0, .int .i64 0, .int .i64 0, .int .i64 o, .int .i64 0, .int .i64 0, .slice a1 l1 c1, .slice none 0 0, .slice none 0 0, .int .i64 mu, .int .i64 h] 40))
  have hb9 := Box11.alloc (w.alloc (.cells #[.int .i64 2, .int .i64 d, .int .i64 s, .int .i64 o, .int .i64 c, .int .i64 i, .slice a1 l1 c1, .slice a2 l2 c2, .slice a3 l3 c3, .int .i64 mu, .int .i64 h] 40)) (.int .i64 0) (.int .i64 0) (.int .i64 0) (.int .i64 o) (.int .i64 0) (.int .i64 0) (.slice a1 l1 c1) (.slice none 0 0) (.slice none 0 0) (.int .i64 mu) (.int .i64 h) 40
  have hB0 : Below w.heap.size w ((w.alloc (.cells #[.int .i64 2, .int .i64 d, .int .i64 s, .int .i64 o, .int .i64 c, .int .i64 i, .slice a1 l1 c1, .slice a2 l2 c2, .slice a3 l3 c3, .int .i64 mu, .int .i64 h] 40)).alloc (.cells #[.int .i64 0, .int .i64 0, .int .i64 0, .int .i64 o, .int .i64 0, .int .i64 0, .slice a1 l1 c1, .slice none 0 0, .slice none 0 0, .int .i64 mu, .int .i64 h] 40)) := ((Below.refl _ _).alloc (Nat.le_refl _) _).alloc (by simp) _
  simp only [World.size_alloc] at hb9
  generalize (w.alloc (.cells #[.int .i64 2, .int .i64 d, .int .i64 s, .int .i64 o, .int .i64 c, .int .i64 i, .slice a1 l1 c1, .slice a2 l2 c2, .slice a3 l3 c3, .int .i64 mu, .int .i64 h] 40)).alloc (.cells #[.int .i64 0, .int .i64 0, .int .i64 0, .int .i64 o, .int .i64 0, .int .i64 0, .slice a1 l1 c1, .slice none 0 0, .slice none 0 0, .int .i64 mu, .int .i64 h] 40) = W at *
  have z0 := ext_cell hb9.c0 hb9.lt
  have z1 := ext_cell hb9.c1 hb9.lt
  have z2 := ext_cell hb9.c2 hb9.lt
  have z3 := ext_cell hb9.c3 hb9.lt
  have z4 := ext_cell hb9.c4 hb9.lt
  have z5 := ext_cell hb9.c5 hb9.lt
  have z6 := ext_cell hb9.c6 hb9.lt
  have z7 := ext_cell hb9.c7 hb9.lt
  have z8 := ext_cell hb9.c8 hb9.lt
  have z9 := ext_cell hb9.c9 hb9.lt
  have z10 := ext_cell hb9.c10 hb9.lt
  have y4 := ext_cell hb4'.c4 hb4'.lt
  have y5 := ext_cell hb4'.c5 hb4'.lt
  have y7 := ext_cell hb4'.c7 hb4'.lt
  have y8 := ext_cell hb4'.c8 hb4'.lt
  have HB := Lib.hid hB0
  clear hb4' hb9 hB0
  refine wp_region_quiet_ext (by kernel_rfl) (by kernel_rfl) ?_
  repeat (go_big_quiet_step (first | (go_at_call 25; exact Calls.ext_of (HKB.out _)) | (go_at_call 15; with_reducible exact Calls.ext_of_same (HWC.out _)) | (go_at_call 15; with_reducible exact Calls.ext_of_same (HWI.out _))))
  refine wpQuiet_nil ?_
  intro _ hw'
  obtain ⟨nq, hw''⟩ := hw'
  subst hw''
  have HE := Lib.hid (HB.out.trans ((ext_below W nq).mono HB.out.size))
  generalize ext W nq = w2 at *
  go_wp2
  go_ret
  exact ⟨rfl, HE.out⟩

set_option maxRecDepth 100000 in
set_option maxHeartbeats 3200000 in
theorem kFits2_5 (d s o c i mu h : Int) (a1 a2 a3 : Option Addr) (l1 l2 l3 c1 c2 c3 : Nat) (hl1 : l1 ≤ 9223372036854775807) (hl2 : l2 ≤ 9223372036854775807) (hl3 : l3 ≤ 9223372036854775807) (n m t : Int) (hn1 : 1 ≤ n) (hn2 : n ≤ 262144) (hb0 : o = 0 ∧ mu = 0 ∧ h = 0 ∧ l1 = 0) (hc0 : 1 ≤ c ∧ c ≤ 262144) (hi0 : 1 ≤ i ∧ i ≤ 262144) (ht1 : m = i * c) (ht2 : n % c = 0) (ht3 : (l3 : Int) = n / c) (ht4 : (l2 : Int) = l3 * i) (w : World) :
    Calls Tryz.prog 16 #[.agg #[.int .i64 2, .int .i64 d, .int .i64 s, .int .i64 o, .int .i64 c, .int .i64 i, .slice a1 l1 c1, .slice a2 l2 c2, .slice a3 l3 c3, .int .i64 mu, .int .i64 h], .int .i64 n, .int .i64 m, .int .i64 t] w
      fun e w' => e = .returned (.bool true) ∧ Below w.heap.size w w' := by
  have HKB : Hid (∀ wv, Calls Tryz.prog 25 #[.agg #[.int .i64 0, .int .i64 0, .int .i64 0, .int .i64 o, .int .i64 0, .int .i64 0, .slice a1 l1 c1, .slice none 0 0, .slice none 0 0, .int .i64 mu, .int .i64 h]] wv fun e w' => e = .returned (.bool true) ∧ Below wv.heap.size wv w') := by
    intro wv
    refine (kBare 0 0 0 o 0 0 mu h a1 none none l1 0 0 c1 0 0 hl1 (Nat.zero_le _) (Nat.zero_le _) wv).mono ?_
    rintro e w1 ⟨rfl, hb⟩
    exact ⟨ret_bool (by rw [decide_eq_true_eq]; omega), hb⟩
  have HWC : Hid (∀ wv, Calls Tryz.prog 15 #[.int .i64 c, .int .i64 1, .int .i64 262144] wv fun e w' => e = .returned (.bool true) ∧ wv = w') := by
    intro wv
    refine (kWithin c 1 262144 wv).mono ?_
    rintro e w1 ⟨rfl, rfl⟩
    exact ⟨ret_bool (by rw [wthn_iff]; omega), rfl⟩
  have HWI : Hid (∀ wv, Calls Tryz.prog 15 #[.int .i64 i, .int .i64 1, .int .i64 262144] wv fun e w' => e = .returned (.bool true) ∧ wv = w') := by
    intro wv
    refine (kWithin i 1 262144 wv).mono ?_
    rintro e w1 ⟨rfl, rfl⟩
    exact ⟨ret_bool (by rw [wthn_iff]; omega), rfl⟩
  obtain ⟨hc1, hc2⟩ := hc0
  obtain ⟨g1, g2, g3, g4, g5, g6⟩ := gemm_bd (l3 := l3) (i := i) hn1 hn2 hc1 hc2
  obtain ⟨p1, p2⟩ := mul_int_bd hi0.1 hi0.2 hc1 hc2
  have e1 : IntKind.i64.wrap (i * c) = i * c := IntWalk.i64_in _ (by omega)
  have e3 : IntKind.i64.wrap (n / c) = n / c := IntWalk.i64_in _ (by omega)
  have hcz : (c == 0) = false := by rw [beq_eq_false_iff_ne]; omega
  have hcz2 : ¬ c = 0 := by omega
  have e4 : IntKind.i64.wrap ((l3 : Int) * i) = l3 * i := IntWalk.i64_in _ (by rw [ht3]; exact ⟨by have := Int.mul_nonneg g3 (show 0 ≤ i by omega); omega, by have := Int.mul_le_mul g4 hi0.2 (by omega) (by omega); omega⟩)
  have t1 : (m == i * c) = true := by rw [beq_iff_eq]; exact ht1
  have t2 : (n % c == 0) = true := by rw [beq_iff_eq]; exact ht2
  have t3 : ((l3 : Int) == n / c) = true := by rw [beq_iff_eq]; exact ht3
  have t4 : ((l2 : Int) == l3 * i) = true := by rw [beq_iff_eq]; exact ht4
  clear hb0 hi0
  clear ht1 ht2 ht3 ht4
  go_enter Tryz.func16, Tryz.ntmps16
  go_wp2
  have hb4' := (Box11.alloc w (.int .i64 2) (.int .i64 d) (.int .i64 s) (.int .i64 o) (.int .i64 c) (.int .i64 i) (.slice a1 l1 c1) (.slice a2 l2 c2) (.slice a3 l3 c3) (.int .i64 mu) (.int .i64 h) 40).below ((Below.refl _ _).alloc (Nat.le_refl _) (.cells #[.int .i64 0, .int .i64 0, .int .i64 0, .int .i64 o, .int .i64 0, .int .i64 0, .slice a1 l1 c1, .slice none 0 0, .slice none 0 0, .int .i64 mu, .int .i64 h] 40))
  have hb9 := Box11.alloc (w.alloc (.cells #[.int .i64 2, .int .i64 d, .int .i64 s, .int .i64 o, .int .i64 c, .int .i64 i, .slice a1 l1 c1, .slice a2 l2 c2, .slice a3 l3 c3, .int .i64 mu, .int .i64 h] 40)) (.int .i64 0) (.int .i64 0) (.int .i64 0) (.int .i64 o) (.int .i64 0) (.int .i64 0) (.slice a1 l1 c1) (.slice none 0 0) (.slice none 0 0) (.int .i64 mu) (.int .i64 h) 40
  have hB0 : Below w.heap.size w ((w.alloc (.cells #[.int .i64 2, .int .i64 d, .int .i64 s, .int .i64 o, .int .i64 c, .int .i64 i, .slice a1 l1 c1, .slice a2 l2 c2, .slice a3 l3 c3, .int .i64 mu, .int .i64 h] 40)).alloc (.cells #[.int .i64 0, .int .i64 0, .int .i64 0, .int .i64 o, .int .i64 0, .int .i64 0, .slice a1 l1 c1, .slice none 0 0, .slice none 0 0, .int .i64 mu, .int .i64 h] 40)) := ((Below.refl _ _).alloc (Nat.le_refl _) _).alloc (by simp) _
  simp only [World.size_alloc] at hb9
  generalize (w.alloc (.cells #[.int .i64 2, .int .i64 d, .int .i64 s, .int .i64 o, .int .i64 c, .int .i64 i, .slice a1 l1 c1, .slice a2 l2 c2, .slice a3 l3 c3, .int .i64 mu, .int .i64 h] 40)).alloc (.cells #[.int .i64 0, .int .i64 0, .int .i64 0, .int .i64 o, .int .i64 0, .int .i64 0, .slice a1 l1 c1, .slice none 0 0, .slice none 0 0, .int .i64 mu, .int .i64 h] 40) = W at *
  have z0 := ext_cell hb9.c0 hb9.lt
  have z1 := ext_cell hb9.c1 hb9.lt
  have z2 := ext_cell hb9.c2 hb9.lt
  have z3 := ext_cell hb9.c3 hb9.lt
  have z4 := ext_cell hb9.c4 hb9.lt
  have z5 := ext_cell hb9.c5 hb9.lt
  have z6 := ext_cell hb9.c6 hb9.lt
  have z7 := ext_cell hb9.c7 hb9.lt
  have z8 := ext_cell hb9.c8 hb9.lt
  have z9 := ext_cell hb9.c9 hb9.lt
  have z10 := ext_cell hb9.c10 hb9.lt
  have y4 := ext_cell hb4'.c4 hb4'.lt
  have y5 := ext_cell hb4'.c5 hb4'.lt
  have y7 := ext_cell hb4'.c7 hb4'.lt
  have y8 := ext_cell hb4'.c8 hb4'.lt
  have HB := Lib.hid hB0
  clear hb4' hb9 hB0
  refine wp_region_quiet_ext (by kernel_rfl) (by kernel_rfl) ?_
  repeat (go_big_quiet_step (first | (go_at_call 25; exact Calls.ext_of (HKB.out _)) | (go_at_call 15; with_reducible exact Calls.ext_of_same (HWC.out _)) | (go_at_call 15; with_reducible exact Calls.ext_of_same (HWI.out _))))
  refine wpQuiet_nil ?_
  intro _ hw'
  obtain ⟨nq, hw''⟩ := hw'
  subst hw''
  have HE := Lib.hid (HB.out.trans ((ext_below W nq).mono HB.out.size))
  generalize ext W nq = w2 at *
  go_wp2
  go_ret
  exact ⟨rfl, HE.out⟩

end Go.Proofs.YthlmgejikbmmaaaGreat

/-
  kernel.fits at any operation: by contract.
-/
namespace Go.Proofs.YthlmgejikbmmaaaGreat
open Go.RowKit

/-- What fits says. -/
def fitsL (o : OpL) (n m t : Int) : Bool :=
  if o.kind = 1 then decide (o.other = 0 ∧ o.cols = 0 ∧ o.inner = 0 ∧ o.mul = 0 ∧ o.shift = 0 ∧ o.weights.length = 0 ∧ o.bias.length = 0 ∧ (o.index.length : Int) = n) && o.index.all (fun x => wthn x (-1) (m - 1))
  else if o.kind = 2 then decide (o.other = 0 ∧ o.mul = 0 ∧ o.shift = 0 ∧ o.index.length = 0 ∧ 1 ≤ o.cols ∧ o.cols ≤ 262144 ∧ 1 ≤ o.inner ∧ o.inner ≤ 262144 ∧ m = o.inner * o.cols ∧ n % o.cols = 0 ∧ (o.bias.length : Int) = n / o.cols ∧ (o.weights.length : Int) = o.bias.length * o.inner)
  else if o.kind = 3 then decide (o.other = 0 ∧ o.cols = 0 ∧ o.inner = 0 ∧ o.mul = 0 ∧ o.shift = 0 ∧ o.index.length = 0 ∧ o.weights.length = 0 ∧ o.bias.length = 0 ∧ m = n)
  else if o.kind = 4 ∨ o.kind = 5 then decide (o.other = 0 ∧ o.cols = 0 ∧ o.mul = 0 ∧ o.shift = 0 ∧ o.index.length = 0 ∧ o.weights.length = 0 ∧ o.bias.length = 0 ∧ 1 ≤ o.inner ∧ o.inner ≤ 262144 ∧ m = n * o.inner)
  else if o.kind = 6 then decide (o.cols = 0 ∧ o.inner = 0 ∧ o.mul = 0 ∧ o.shift = 0 ∧ o.index.length = 0 ∧ o.weights.length = 0 ∧ o.bias.length = 0 ∧ m = n ∧ t = n)
  else if o.kind = 7 then decide (o.other = 0 ∧ o.cols = 0 ∧ o.inner = 0 ∧ o.index.length = 0 ∧ o.weights.length = 0 ∧ o.bias.length = 0 ∧ m = n ∧ 0 ≤ o.shift ∧ o.shift ≤ 62)
  else false

/-- An operation as a value. -/
structure OpV (w : World) (v : Value) (o : OpL) : Prop where
  ex : ∃ (a1 a2 a3 : Option Addr) (c1 c2 c3 : Nat), v = .agg #[.int .i64 o.kind, .int .i64 o.dst, .int .i64 o.src, .int .i64 o.other, .int .i64 o.cols, .int .i64 o.inner, .slice a1 o.index.length c1, .slice a2 o.weights.length c2, .slice a3 o.bias.length c3, .int .i64 o.mul, .int .i64 o.shift] ∧
    Ints w Any a1 o.index ∧ Ints w Any a2 o.weights ∧ Ints w Any a3 o.bias ∧ o.index.length ≤ c1 ∧ o.weights.length ≤ c2 ∧ o.bias.length ≤ c3
theorem OpV.below {w w' : World} {v : Value} {o : OpL} (h : OpV w v o) (hb : Below w.heap.size w w') : OpV w' v o := by
  obtain ⟨a1, a2, a3, c1, c2, c3, e, h1, h2, h3, h4⟩ := h.ex
  exact ⟨a1, a2, a3, c1, c2, c3, e, h1.below hb, h2.below hb, h3.below hb, h4⟩

set_option maxRecDepth 100000 in
set_option maxHeartbeats 3200000 in
theorem kFits0 (k d s o c i mu h : Int) (hk : k < 1 ∨ 7 < k) (a1 a2 a3 : Option Addr) (l1 l2 l3 c1 c2 c3 : Nat) (n m t : Int) (w : World) :
    Calls Tryz.prog 16 #[.agg #[.int .i64 k, .int .i64 d, .int .i64 s, .int .i64 o, .int .i64 c, .int .i64 i, .slice a1 l1 c1, .slice a2 l2 c2, .slice a3 l3 c3, .int .i64 mu, .int .i64 h], .int .i64 n, .int .i64 m, .int .i64 t] w
      fun e w' => e = .returned (.bool false) ∧ Below w.heap.size w w' := by
  have k1 : (k == 1) = false := by rw [beq_eq_false_iff_ne]; omega
  have k2 : (k == 2) = false := by rw [beq_eq_false_iff_ne]; omega
  have k3 : (k == 3) = false := by rw [beq_eq_false_iff_ne]; omega
  have k4 : (k == 4) = false := by rw [beq_eq_false_iff_ne]; omega
  have k5 : (k == 5) = false := by rw [beq_eq_false_iff_ne]; omega
  have k6 : (k == 6) = false := by rw [beq_eq_false_iff_ne]; omega
  have k7 : (k == 7) = false := by rw [beq_eq_false_iff_ne]; omega
  clear hk
  go_enter Tryz.func16, Tryz.ntmps16
  go_wp2
  go_ret
  exact ⟨rfl, ((Below.refl _ _).alloc (Nat.le_refl _) _).alloc (by simp) _⟩

theorem kFits {w : World} {v : Value} {o : OpL} (hv : OpV w v o) (n m t : Int) (hn1 : 1 ≤ n) (hn2 : n ≤ 262144) (hm1 : 1 ≤ m) (hm2 : m ≤ 262144) :
    Calls Tryz.prog 16 #[v, .int .i64 n, .int .i64 m, .int .i64 t] w fun e w' => e = .returned (.bool (fitsL o n m t)) ∧ Below w.heap.size w w' := by
  obtain ⟨a1, a2, a3, c1, c2, c3, rfl, h1, h2, h3, h4, h5, h6⟩ := hv.ex
  have q1 := h1.len
  have q2 := h2.len
  have q3 := h3.len
  obtain ⟨kind, dst, src, other, cols, inner, index, weights, bias, mul, shift⟩ := o
  simp only at *
  by_cases k1 : kind = 1
  · subst k1
    exact (kFits1 dst src other cols inner mul shift a1 a2 a3 index _ _ c1 c2 c3 q2 q3 n m t hm1 hm2 w h1).mono fun e w' ⟨he, hb⟩ => ⟨he.trans (ret_bool rfl), hb⟩
  by_cases k2 : kind = 2
  · subst k2
    have hR : fitsL ⟨2, dst, src, other, cols, inner, index, weights, bias, mul, shift⟩ n m t = decide (other = 0 ∧ mul = 0 ∧ shift = 0 ∧ index.length = 0 ∧ 1 ≤ cols ∧ cols ≤ 262144 ∧ 1 ≤ inner ∧ inner ≤ 262144 ∧ m = inner * cols ∧ n % cols = 0 ∧ (bias.length : Int) = n / cols ∧ (weights.length : Int) = bias.length * inner) := rfl
    have conv : ∀ {b : Bool}, fitsL ⟨2, dst, src, other, cols, inner, index, weights, bias, mul, shift⟩ n m t = b →
        (Calls Tryz.prog 16 #[.agg #[.int .i64 2, .int .i64 dst, .int .i64 src, .int .i64 other, .int .i64 cols, .int .i64 inner, .slice a1 index.length c1, .slice a2 weights.length c2, .slice a3 bias.length c3, .int .i64 mul, .int .i64 shift], .int .i64 n, .int .i64 m, .int .i64 t] w fun e w' => e = .returned (.bool b) ∧ Below w.heap.size w w') →
        Calls Tryz.prog 16 #[.agg #[.int .i64 2, .int .i64 dst, .int .i64 src, .int .i64 other, .int .i64 cols, .int .i64 inner, .slice a1 index.length c1, .slice a2 weights.length c2, .slice a3 bias.length c3, .int .i64 mul, .int .i64 shift], .int .i64 n, .int .i64 m, .int .i64 t] w fun e w' => e = .returned (.bool (fitsL ⟨2, dst, src, other, cols, inner, index, weights, bias, mul, shift⟩ n m t)) ∧ Below w.heap.size w w' := by
      intro b hb h; rw [hb]; exact h
    rw [hR] at conv
    rw [hR]
    by_cases hb0 : other = 0 ∧ mul = 0 ∧ shift = 0 ∧ index.length = 0
    · by_cases hc0 : 1 ≤ cols ∧ cols ≤ 262144
      · by_cases hi0 : 1 ≤ inner ∧ inner ≤ 262144
        · by_cases t1 : m = inner * cols
          · by_cases t2 : n % cols = 0
            · by_cases t3 : (bias.length : Int) = n / cols
              · by_cases t4 : (weights.length : Int) = bias.length * inner
                · exact conv (decide_eq_true ⟨hb0.1, hb0.2.1, hb0.2.2.1, hb0.2.2.2, hc0.1, hc0.2, hi0.1, hi0.2, t1, t2, t3, t4⟩) (kFits2_5 dst src other cols inner mul shift a1 a2 a3 _ _ _ c1 c2 c3 q1 q2 q3 n m t hn1 hn2 hb0 hc0 hi0 t1 t2 t3 t4 w)
                · exact conv (decide_eq_false fun g => t4 g.2.2.2.2.2.2.2.2.2.2.2) (kFits2_4 dst src other cols inner mul shift a1 a2 a3 _ _ _ c1 c2 c3 q1 q2 q3 n m t hn1 hn2 hb0 hc0 hi0 t1 t2 t3 t4 w)
              · exact conv (decide_eq_false fun g => t3 g.2.2.2.2.2.2.2.2.2.2.1) (kFits2_3 dst src other cols inner mul shift a1 a2 a3 _ _ _ c1 c2 c3 q1 q2 q3 n m t hn1 hn2 hb0 hc0 hi0 t1 t2 t3 w)
            · exact conv (decide_eq_false fun g => t2 g.2.2.2.2.2.2.2.2.2.1) (kFits2_2 dst src other cols inner mul shift a1 a2 a3 _ _ _ c1 c2 c3 q1 q2 q3 n m t hn1 hn2 hb0 hc0 hi0 t1 t2 w)
          · exact conv (decide_eq_false fun g => t1 g.2.2.2.2.2.2.2.2.1) (kFits2_1 dst src other cols inner mul shift a1 a2 a3 _ _ _ c1 c2 c3 q1 q2 q3 n m t hn1 hn2 hb0 hc0 hi0 t1 w)
        · exact conv (decide_eq_false fun g => hi0 ⟨g.2.2.2.2.2.2.1, g.2.2.2.2.2.2.2.1⟩) (kFits2_i dst src other cols inner mul shift a1 a2 a3 _ _ _ c1 c2 c3 q1 q2 q3 n m t hn1 hn2 hb0 hc0 hi0 w)
      · exact conv (decide_eq_false fun g => hc0 ⟨g.2.2.2.2.1, g.2.2.2.2.2.1⟩) (kFits2_c dst src other cols inner mul shift a1 a2 a3 _ _ _ c1 c2 c3 q1 q2 q3 n m t hn1 hn2 hb0 hc0 w)
    · exact conv (decide_eq_false fun g => hb0 ⟨g.1, g.2.1, g.2.2.1, g.2.2.2.1⟩) (kFits2_b dst src other cols inner mul shift a1 a2 a3 _ _ _ c1 c2 c3 q1 q2 q3 n m t hn1 hn2 hb0 w)
  by_cases k3 : kind = 3
  · subst k3
    exact (kFits3 dst src other cols inner mul shift a1 a2 a3 _ _ _ c1 c2 c3 q1 q2 q3 n m t w).mono fun e w' ⟨he, hb⟩ => ⟨he.trans (ret_bool rfl), hb⟩
  by_cases k4 : kind = 4
  · subst k4
    exact (kFits4 dst src other cols inner mul shift a1 a2 a3 _ _ _ c1 c2 c3 q1 q2 q3 n m t hn1 hn2 w).mono fun e w' ⟨he, hb⟩ => ⟨he.trans (ret_bool rfl), hb⟩
  by_cases k5 : kind = 5
  · subst k5
    exact (kFits5 dst src other cols inner mul shift a1 a2 a3 _ _ _ c1 c2 c3 q1 q2 q3 n m t hn1 hn2 w).mono fun e w' ⟨he, hb⟩ => ⟨he.trans (ret_bool rfl), hb⟩
  by_cases k6 : kind = 6
  · subst k6
    exact (kFits6 dst src other cols inner mul shift a1 a2 a3 _ _ _ c1 c2 c3 q1 q2 q3 n m t w).mono fun e w' ⟨he, hb⟩ => ⟨he.trans (ret_bool rfl), hb⟩
  by_cases k7 : kind = 7
  · subst k7
    exact (kFits7 dst src other cols inner mul shift a1 a2 a3 _ _ _ c1 c2 c3 q1 q2 q3 n m t w).mono fun e w' ⟨he, hb⟩ => ⟨he.trans (ret_bool rfl), hb⟩
  · have hR : fitsL ⟨kind, dst, src, other, cols, inner, index, weights, bias, mul, shift⟩ n m t = false := by
      simp [fitsL, k1, k2, k3, k4, k5, k6, k7]
    rw [hR]
    exact kFits0 kind dst src other cols inner mul shift (by omega) a1 a2 a3 _ _ _ c1 c2 c3 n m t w

end Go.Proofs.YthlmgejikbmmaaaGreat

/-
  Kernels in memory. The walk of kernel.bounds: by contract.
-/
namespace Go.Proofs.YthlmgejikbmmaaaGreat
open Go.RowKit

/-- The slice at a reads as the rationals L. -/
structure RatsAt (w : World) (a : Option Addr) (L : List RatL) : Prop where
  len : L.length ≤ 9223372036854775807
  row : L = [] ∨ ∃ b off, a = some ⟨b, off, none⟩ ∧ b < w.heap.size ∧ ∀ (j : Nat) (x : RatL), L[j]? = some x → ∃ (an ad : Option Addr) (cn cd : Nat), w.cell? ⟨b, off + j * 3, none⟩ = some (.bool x.neg) ∧ w.cell? ⟨b, off + j * 3 + 1, none⟩ = some (.slice an x.num.length cn) ∧ w.cell? ⟨b, off + j * 3 + 2, none⟩ = some (.slice ad x.den.length cd) ∧
    RatV w (.agg #[.bool x.neg, .slice an x.num.length cn, .slice ad x.den.length cd]) x
theorem RatsAt.below {w w' : World} {a : Option Addr} {L : List RatL} (h : RatsAt w a L) (hb : Below w.heap.size w w') : RatsAt w' a L := by
  refine ⟨h.len, h.row.imp id ?_⟩
  rintro ⟨b, off, rfl, hs, hc⟩
  refine ⟨b, off, rfl, Nat.lt_of_lt_of_le hs hb.size, fun j x hj => ?_⟩
  obtain ⟨an, ad, cn, cd, h1, h2, h3, h4⟩ := hc j x hj
  exact ⟨an, ad, cn, cd, (hb.cell hs).trans h1, (hb.cell hs).trans h2, (hb.cell hs).trans h3, h4.below hb⟩
theorem RatsAt.pick {w : World} {a : Option Addr} {L : List RatL} (h : RatsAt w a L) {k : Nat} (hk : k < L.length) :
    ∃ b off x an ad cn cd, a = some ⟨b, off, none⟩ ∧ b < w.heap.size ∧ L[k]? = some x ∧ w.cell? ⟨b, off + k * 3, none⟩ = some (.bool x.neg) ∧ w.cell? ⟨b, off + k * 3 + 1, none⟩ = some (.slice an x.num.length cn) ∧ w.cell? ⟨b, off + k * 3 + 2, none⟩ = some (.slice ad x.den.length cd) ∧
      RatV w (.agg #[.bool x.neg, .slice an x.num.length cn, .slice ad x.den.length cd]) x := by
  rcases h.row with rfl | ⟨b, off, rfl, hb, hc⟩
  · simp at hk
  · have hd : L[k]? = some L[k] := by simp [hk]
    obtain ⟨an, ad, cn, cd, h1, h2, h3, h4⟩ := hc k _ hd
    exact ⟨b, off, L[k], an, ad, cn, cd, rfl, hb, hd, h1, h2, h3, h4⟩

/-- The slice at a reads as the operations L. -/
structure OpsAt (w : World) (a : Option Addr) (L : List OpL) : Prop where
  len : L.length ≤ 9223372036854775807
  row : L = [] ∨ ∃ b off, a = some ⟨b, off, none⟩ ∧ b < w.heap.size ∧ ∀ (j : Nat) (x : OpL), L[j]? = some x → ∃ (a1 a2 a3 : Option Addr) (c1 c2 c3 : Nat),
    (w.cell? ⟨b, off + j * 11, none⟩ = some (.int .i64 x.kind) ∧ w.cell? ⟨b, off + j * 11 + 1, none⟩ = some (.int .i64 x.dst) ∧ w.cell? ⟨b, off + j * 11 + 2, none⟩ = some (.int .i64 x.src) ∧ w.cell? ⟨b, off + j * 11 + 3, none⟩ = some (.int .i64 x.other) ∧
      w.cell? ⟨b, off + j * 11 + 4, none⟩ = some (.int .i64 x.cols) ∧ w.cell? ⟨b, off + j * 11 + 5, none⟩ = some (.int .i64 x.inner) ∧ w.cell? ⟨b, off + j * 11 + 6, none⟩ = some (.slice a1 x.index.length c1) ∧ w.cell? ⟨b, off + j * 11 + 7, none⟩ = some (.slice a2 x.weights.length c2) ∧
      w.cell? ⟨b, off + j * 11 + 8, none⟩ = some (.slice a3 x.bias.length c3) ∧ w.cell? ⟨b, off + j * 11 + 9, none⟩ = some (.int .i64 x.mul) ∧ w.cell? ⟨b, off + j * 11 + 10, none⟩ = some (.int .i64 x.shift)) ∧
    OpV w (.agg #[.int .i64 x.kind, .int .i64 x.dst, .int .i64 x.src, .int .i64 x.other, .int .i64 x.cols, .int .i64 x.inner, .slice a1 x.index.length c1, .slice a2 x.weights.length c2, .slice a3 x.bias.length c3, .int .i64 x.mul, .int .i64 x.shift]) x
theorem OpsAt.below {w w' : World} {a : Option Addr} {L : List OpL} (h : OpsAt w a L) (hb : Below w.heap.size w w') : OpsAt w' a L := by
  refine ⟨h.len, h.row.imp id ?_⟩
  rintro ⟨b, off, rfl, hs, hc⟩
  refine ⟨b, off, rfl, Nat.lt_of_lt_of_le hs hb.size, fun j x hj => ?_⟩
  obtain ⟨a1, a2, a3, c1, c2, c3, ⟨h0, h1, h2, h3, h4, h5, h6, h7, h8, h9, h10⟩, hv⟩ := hc j x hj
  exact ⟨a1, a2, a3, c1, c2, c3, ⟨(hb.cell hs).trans h0, (hb.cell hs).trans h1, (hb.cell hs).trans h2, (hb.cell hs).trans h3, (hb.cell hs).trans h4, (hb.cell hs).trans h5, (hb.cell hs).trans h6, (hb.cell hs).trans h7, (hb.cell hs).trans h8, (hb.cell hs).trans h9, (hb.cell hs).trans h10⟩, hv.below hb⟩

/-- A kernel. -/
structure KerL where
  sizes : List Int
  ops : List OpL
  output : Int
  inShift : Int
  outShift : Int
  lo : List RatL
  hi : List RatL
  err : List RatL

/-- A kernel as a value. -/
structure KerV (w : World) (v : Value) (k : KerL) : Prop where
  ex : ∃ (a1 a2 a3 a4 a5 : Option Addr) (c1 c2 c3 c4 c5 : Nat), v = .agg #[.slice a1 k.sizes.length c1, .slice a2 k.ops.length c2, .int .i64 k.output, .int .i64 k.inShift, .int .i64 k.outShift, .slice a3 k.lo.length c3, .slice a4 k.hi.length c4, .slice a5 k.err.length c5] ∧
    Ints w Any a1 k.sizes ∧ OpsAt w a2 k.ops ∧ RatsAt w a3 k.lo ∧ RatsAt w a4 k.hi ∧ RatsAt w a5 k.err
theorem KerV.below {w w' : World} {v : Value} {k : KerL} (h : KerV w v k) (hb : Below w.heap.size w w') : KerV w' v k := by
  obtain ⟨a1, a2, a3, a4, a5, c1, c2, c3, c4, c5, e, h1, h2, h3, h4, h5⟩ := h.ex
  exact ⟨a1, a2, a3, a4, a5, c1, c2, c3, c4, c5, e, h1.below hb, h2.below hb, h3.below hb, h4.below hb, h5.below hb⟩

/-- The numbers are not too long. -/
def RatL.Short (x : RatL) : Prop := x.num.length ≤ 1048576 ∧ x.den.length ≤ 1048576
def pairOK (a b : RatL) : Bool := validR a && (validR b && !decide (0 < cmpR a b))
def errOK (e : RatL) : Bool := validR e && !e.neg
def boundsL (k : KerL) : Bool :=
  decide ((k.lo.length : Int) = k.sizes.getD 0 0 ∧ (k.hi.length : Int) = k.sizes.getD 0 0 ∧ (k.err.length : Int) = k.sizes.getD k.output.toNat 0) && ((k.lo.zip k.hi).all (fun p => pairOK p.1 p.2) && k.err.all errOK)

/-- A struct of eight cells in block g. -/
structure Box8 (w : World) (g : Nat) (p0 p1 p2 p3 p4 p5 p6 p7 : Value) : Prop where
  c0 : w.cell? ⟨g, 0, none⟩ = some p0
  c1 : w.cell? ⟨g, 1, none⟩ = some p1
  c2 : w.cell? ⟨g, 2, none⟩ = some p2
  c3 : w.cell? ⟨g, 3, none⟩ = some p3
  c4 : w.cell? ⟨g, 4, none⟩ = some p4
  c5 : w.cell? ⟨g, 5, none⟩ = some p5
  c6 : w.cell? ⟨g, 6, none⟩ = some p6
  c7 : w.cell? ⟨g, 7, none⟩ = some p7
  lt : g < w.heap.size
theorem Box8.below {w w' : World} {g : Nat} {p0 p1 p2 p3 p4 p5 p6 p7 : Value} (h : Box8 w g p0 p1 p2 p3 p4 p5 p6 p7) (hb : Below w.heap.size w w') : Box8 w' g p0 p1 p2 p3 p4 p5 p6 p7 :=
  ⟨(hb.cell h.lt).trans h.c0, (hb.cell h.lt).trans h.c1, (hb.cell h.lt).trans h.c2, (hb.cell h.lt).trans h.c3, (hb.cell h.lt).trans h.c4, (hb.cell h.lt).trans h.c5, (hb.cell h.lt).trans h.c6, (hb.cell h.lt).trans h.c7, Nat.lt_of_lt_of_le h.lt hb.size⟩
theorem Box8.alloc (w : World) (p0 p1 p2 p3 p4 p5 p6 p7 : Value) (T : Nat) : Box8 (w.alloc (.cells #[p0, p1, p2, p3, p4, p5, p6, p7] T)) w.heap.size p0 p1 p2 p3 p4 p5 p6 p7 := by
  refine ⟨?_, ?_, ?_, ?_, ?_, ?_, ?_, ?_, by simp⟩ <;> (rw [World.cell?_alloc_at _ _ _ _ rfl]; rfl)

theorem zip_take_succ {α β : Type} {l : List α} {m : List β} {k : Nat} {x : α} {y : β} (hx : l[k]? = some x) (hy : m[k]? = some y) : (l.zip m).take (k + 1) = (l.zip m).take k ++ [(x, y)] := by
  have h : (l.zip m)[k]? = some (x, y) := by rw [List.getElem?_zip_eq_some]; exact ⟨hx, hy⟩
  rw [List.take_add_one, h]; rfl
theorem take_succ_at {α : Type} {l : List α} {k : Nat} {x : α} (hx : l[k]? = some x) : l.take (k + 1) = l.take k ++ [x] := by
  rw [List.take_add_one, hx]; rfl
theorem zip_mem {α β : Type} {l : List α} {m : List β} {k : Nat} {x : α} {y : β} (hx : l[k]? = some x) (hy : m[k]? = some y) : (x, y) ∈ l.zip m := by
  have h : (l.zip m)[k]? = some (x, y) := by rw [List.getElem?_zip_eq_some]; exact ⟨hx, hy⟩
  exact List.mem_of_getElem? h

end Go.Proofs.YthlmgejikbmmaaaGreat

/-
  The walk of kernel.bounds: by contract.
-/
namespace Go.Proofs.YthlmgejikbmmaaaGreat
open Go.RowKit

set_option maxRecDepth 100000 in
set_option maxHeartbeats 3200000 in
theorem kBounds_sizes {w : World} {v : Value} {k : KerL} (hv : KerV w v k) (hs : 0 < k.sizes.length) (ho1 : 0 ≤ k.output) (ho2 : k.output < k.sizes.length)
    (hne : ¬ ((k.lo.length : Int) = k.sizes.getD 0 0 ∧ (k.hi.length : Int) = k.sizes.getD 0 0 ∧ (k.err.length : Int) = k.sizes.getD k.output.toNat 0)) :
    Calls Tryz.prog 17 #[v] w fun e w' => e = .returned (.bool (boundsL k)) ∧ Below w.heap.size w w' := by
  have hR : boundsL k = false := by unfold boundsL; rw [decide_eq_false hne]; rfl
  obtain ⟨a1, a2, a3, a4, a5, c1, c2, c3, c4, c5, rfl, h1, h2, h3, h4, h5⟩ := hv.ex
  have HR := Lib.hid hR
  obtain ⟨sizes, ops, output, is, os, lo, hi, err⟩ := k
  simp only at *
  obtain ⟨on, rfl⟩ := Int.eq_ofNat_of_zero_le ho1
  have hon : on < sizes.length := by omega
  obtain ⟨b, off, s0, rfl, hc0, hx0, _, hbs, _, _, _⟩ := h1.pick2 hs
  obtain ⟨b', off', s1, he, hc1, hx1, _, _, _, _, _⟩ := h1.pick2 hon
  cases he
  have g0 : sizes.getD 0 0 = s0 := by rw [List.getD_eq_getElem?_getD, hx0]; rfl
  have g1 : sizes.getD (on : Int).toNat 0 = s1 := by rw [Int.toNat_natCast, List.getD_eq_getElem?_getD, hx1]; rfl
  rw [g0, g1] at hne
  rw [Nat.add_zero] at hc0
  have q1 := h1.len
  have q3 := h3.len
  have q4 := h4.len
  have q5 := h5.len
  clear hv hR h1 h2 h3 h4 h5 g0 g1 hx0 hx1
  by_cases n1 : (lo.length : Int) = s0
  · have t1 : ((lo.length : Int) != s0) = false := by rw [n1]; simp
    by_cases n2 : (hi.length : Int) = s0
    · have t2 : ((hi.length : Int) != s0) = false := by rw [n2]; simp
      have n3 : ¬ (err.length : Int) = s1 := fun h => hne ⟨n1, n2, h⟩
      have t3 : ((err.length : Int) != s1) = true := by rw [bne_iff_ne]; exact n3
      clear n1 n2 n3 hne
      go_enter Tryz.func17, Tryz.ntmps17
      go_wp2
      go_quiet (fail)
      go_wp2
      go_ret
      exact ⟨ret_bool HR.out.symm, ((Below.refl _ _).alloc (Nat.le_refl _) _).trans ((Below.drewN_refl _ _).mono (by simp))⟩
    · have t2 : ((hi.length : Int) != s0) = true := by rw [bne_iff_ne]; exact n2
      clear n1 n2 hne
      go_enter Tryz.func17, Tryz.ntmps17
      go_wp2
      go_quiet (fail)
      go_wp2
      go_ret
      exact ⟨ret_bool HR.out.symm, ((Below.refl _ _).alloc (Nat.le_refl _) _).trans ((Below.drewN_refl _ _).mono (by simp))⟩
  · have t1 : ((lo.length : Int) != s0) = true := by rw [bne_iff_ne]; exact n1
    clear n1 hne
    go_enter Tryz.func17, Tryz.ntmps17
    go_wp2
    go_quiet (fail)
    go_wp2
    go_ret
    exact ⟨ret_bool HR.out.symm, ((Below.refl _ _).alloc (Nat.le_refl _) _).trans ((Below.drewN_refl _ _).mono (by simp))⟩

set_option maxRecDepth 100000 in
set_option maxHeartbeats 3200000 in
theorem kBounds_rest {w : World} {v : Value} {k : KerL} (hv : KerV w v k) (hs : 0 < k.sizes.length) (ho1 : 0 ≤ k.output) (ho2 : k.output < k.sizes.length)
    (hS1 : ∀ x ∈ k.lo, x.Short) (hS2 : ∀ x ∈ k.hi, x.Short) (hS3 : ∀ x ∈ k.err, x.Short)
    (hyes : (k.lo.length : Int) = k.sizes.getD 0 0 ∧ (k.hi.length : Int) = k.sizes.getD 0 0 ∧ (k.err.length : Int) = k.sizes.getD k.output.toNat 0) :
    Calls Tryz.prog 17 #[v] w fun e w' => e = .returned (.bool (boundsL k)) ∧ Below w.heap.size w w' := by
  have hR : boundsL k = ((k.lo.zip k.hi).all (fun p => pairOK p.1 p.2) && k.err.all errOK) := by unfold boundsL; rw [decide_eq_true hyes]; rfl
  obtain ⟨a1, a2, a3, a4, a5, c1, c2, c3, c4, c5, rfl, h1, h2, h3, h4, h5⟩ := hv.ex
  have HR := Lib.hid hR
  obtain ⟨sizes, ops, output, is, os, lo, hi, err⟩ := k
  simp only at *
  obtain ⟨on, rfl⟩ := Int.eq_ofNat_of_zero_le ho1
  have hon : on < sizes.length := by omega
  obtain ⟨b, off, s0, rfl, hc0, hx0, _, hbs, _, _, _⟩ := h1.pick2 hs
  obtain ⟨b', off', s1, he, hc1, hx1, _, _, _, _, _⟩ := h1.pick2 hon
  cases he
  have g0 : sizes.getD 0 0 = s0 := by rw [List.getD_eq_getElem?_getD, hx0]; rfl
  have g1 : sizes.getD (on : Int).toNat 0 = s1 := by rw [Int.toNat_natCast, List.getD_eq_getElem?_getD, hx1]; rfl
  rw [g0, g1] at hyes
  rw [Nat.add_zero] at hc0
  have q1 := h1.len
  have q3 := h3.len
  have q4 := h4.len
  have q5 := h5.len
  obtain ⟨n1, n2, n3⟩ := hyes
  have t1 : ((lo.length : Int) != s0) = false := by rw [n1]; simp
  have t2 : ((hi.length : Int) != s0) = false := by rw [n2]; simp
  have t3 : ((err.length : Int) != s1) = false := by rw [n3]; simp
  have hlen : hi.length = lo.length := by omega
  have HLen := Lib.hid hlen
  have H3 := Lib.hid h3
  have H4 := Lib.hid h4
  have H5 := Lib.hid h5
  have HS1 := Lib.hid hS1
  have HS2 := Lib.hid hS2
  have HS3 := Lib.hid hS3
  clear hv hR h1 h2 h3 h4 h5 g0 g1 hx0 hx1 n1 n2 n3 hlen hS1 hS2 hS3
  go_enter Tryz.func17, Tryz.ntmps17
  go_wp2
  go_quiet (fail)
  have hB1 : Below w.heap.size w (w.alloc (.cells #[.slice (some ⟨b, off, none⟩) sizes.length c1, .slice a2 ops.length c2, .int .i64 (on : Int), .int .i64 is, .int .i64 os, .slice a3 lo.length c3, .slice a4 hi.length c4, .slice a5 err.length c5] 26)) := (Below.refl _ _).alloc (Nat.le_refl _) _
  have hbx := Box8.alloc w (.slice (some ⟨b, off, none⟩) sizes.length c1) (.slice a2 ops.length c2) (.int .i64 (on : Int)) (.int .i64 is) (.int .i64 os) (.slice a3 lo.length c3) (.slice a4 hi.length c4) (.slice a5 err.length c5) 26
  have hbd := Below.drewN_refl (w.alloc (.cells #[.slice (some ⟨b, off, none⟩) sizes.length c1, .slice a2 ops.length c2, .int .i64 (on : Int), .int .i64 is, .int .i64 os, .slice a3 lo.length c3, .slice a4 hi.length c4, .slice a5 err.length c5] 26)) nq
  generalize w.alloc (.cells #[.slice (some ⟨b, off, none⟩) sizes.length c1, .slice a2 ops.length c2, .int .i64 (on : Int), .int .i64 is, .int .i64 os, .slice a3 lo.length c3, .slice a4 hi.length c4, .slice a5 err.length c5] 26) = W at *
  have HB1 := Lib.hid hB1
  have HBx := Lib.hid hbx
  generalize W.drewN nq = W2 at *
  obtain ⟨x0, x1, x2, x3, x4, x5, x6, x7, _⟩ := hbx.below hbd
  clear hB1 hbx t1 t2 t3 hc0 hc1
  go_wp2
  clear x0 x1 x2 x3 x4 x5 x6 x7
  go_loopw [39] (fun i wr => ∃ j : Nat, j ≤ lo.length ∧ i = .int .i64 (j : Int) ∧ Hid (((lo.zip hi).take j).all (fun p => pairOK p.1 p.2) = true) ∧ Below W.heap.size W wr) (fun i _ => lo.length - (intOf i).toNat)
  case atStart => exact ⟨0, Nat.zero_le _, rfl, rfl, hbd⟩
  case round =>
    clear hbd
    obtain ⟨j, hj, rfl, HA, hb⟩ := hrel
    obtain ⟨x0, x1, x2, x3, x4, x5, x6, x7, xlt⟩ := HBx.out.below hb
    have hbw := HB1.out.trans (hb.mono HB1.out.size)
    by_cases hlt : j < lo.length
    · obtain ⟨bl, ol, x, an, ad, cn, cd, rfl, hbl, hx, l0, l1, l2, hxv⟩ := (H3.out.below hbw).pick hlt
      obtain ⟨bh, oh, y, bn, bd, dn, dd, rfl, hbh, hy, m0, m1, m2, hyv⟩ := (H4.out.below hbw).pick (k := j) (by rw [HLen.out]; exact hlt)
      have hSx := HS1.out x (List.mem_of_getElem? hx)
      have hSy := HS2.out y (List.mem_of_getElem? hy)
      have HT := Lib.hid (zip_take_succ hx hy)
      have HM := Lib.hid (zip_mem hx hy)
      have z5 := ext_cell x5 xlt
      have z6 := ext_cell x6 xlt
      have zl0 := ext_cell l0 hbl
      have zl1 := ext_cell l1 hbl
      have zl2 := ext_cell l2 hbl
      have zm0 := ext_cell m0 hbh
      have zm1 := ext_cell m1 hbh
      have zm2 := ext_cell m2 hbh
      have HVx := Lib.hid (fun e => rValid (hxv.below (ext_below wr e)) (by have := hSx.1; omega) (by have := hSx.2; omega))
      have HVy := Lib.hid (fun e => rValid (hyv.below (ext_below wr e)) (by have := hSy.1; omega) (by have := hSy.2; omega))
      have HCm := Lib.hid (fun e => rCmp (hxv.below (ext_below wr e)) (hyv.below (ext_below wr e)) (by have := hSx.1; omega) (by have := hSx.2; omega) (by have := hSy.1; omega) (by have := hSy.2; omega))
      have HB := Lib.hid hb
      have HBW := Lib.hid hbw
      have HP : Hid (pairOK x y = (validR x && (validR y && !decide (0 < cmpR x y)))) := rfl
      have hjh : j < hi.length := by rw [HLen.out]; exact hlt
      clear hxv hyv hb hbw hSx hSy hx hy l0 l1 l2 m0 m1 m2
      by_cases vx : validR x = true
      · by_cases vy : validR y = true
        · by_cases vc : 0 < cmpR x y
          · have HV : Hid ((validR x && (validR y && !decide (0 < cmpR x y))) = false) := by unfold Hid; rw [decide_eq_true vc]; simp
            have tc : decide (0 < cmpR x y) = true := decide_eq_true vc
            rw [vx] at HVx
            rw [vy] at HVy
            clear vx vy vc
            go_wp2
            refine wp_region_quiet_ext (by kernel_rfl) (by kernel_rfl) ?_
            repeat (go_big_quiet_step (first | (go_at_call 26; with_reducible exact Calls.ext_of (HVx.out _)) | (go_at_call 26; with_reducible exact Calls.ext_of (HVy.out _)) | (go_at_call 27; exact Calls.ext_of (HCm.out _))))
            refine wpQuiet_nil ?_
            intro _ hw'
            obtain ⟨nq, hw''⟩ := hw'
            subst hw''
            have hE := HB.out.trans ((ext_below wr nq).mono HB.out.size)
            have HEW := Lib.hid (HBW.out.trans ((ext_below wr nq).mono HBW.out.size))
            generalize ext wr nq = w3 at *
            go_wp2
            go_ret
            refine ⟨ret_bool ?_, HEW.out⟩
            rw [HR.out, eq_comm, Bool.and_eq_false_iff]
            left
            rw [← Bool.not_eq_true, List.all_eq_true]
            intro hall
            have := hall _ HM.out
            simp only [HP.out, HV.out, Bool.false_and, Bool.and_false, Bool.false_eq_true] at this
          · have HV : Hid ((validR x && (validR y && !decide (0 < cmpR x y))) = true) := by unfold Hid; rw [decide_eq_false vc, vx, vy]; rfl
            have tc : decide (0 < cmpR x y) = false := decide_eq_false vc
            rw [vx] at HVx
            rw [vy] at HVy
            clear vx vy vc
            go_wp2
            refine wp_region_quiet_ext (by kernel_rfl) (by kernel_rfl) ?_
            repeat (go_big_quiet_step (first | (go_at_call 26; with_reducible exact Calls.ext_of (HVx.out _)) | (go_at_call 26; with_reducible exact Calls.ext_of (HVy.out _)) | (go_at_call 27; exact Calls.ext_of (HCm.out _))))
            refine wpQuiet_nil ?_
            intro _ hw'
            obtain ⟨nq, hw''⟩ := hw'
            subst hw''
            have hE := HB.out.trans ((ext_below wr nq).mono HB.out.size)
            have HEW := Lib.hid (HBW.out.trans ((ext_below wr nq).mono HBW.out.size))
            generalize ext wr nq = w3 at *
            go_wp2
            go_roundw
            case rel => exact ⟨j + 1, hlt, by go_num, by unfold Hid; rw [HT.out, List.all_append, HA.out, List.all_cons, List.all_nil]; simp only [HP.out, HV.out]; rfl, hE⟩
            case measure => simp [intOf]; omega
        · have HV : Hid ((validR x && (validR y && !decide (0 < cmpR x y))) = false) := by unfold Hid; rw [Bool.not_eq_true] at vy; rw [vy]; simp
          rw [Bool.not_eq_true] at vy
          rw [vx] at HVx
          rw [vy] at HVy
          clear vx vy
          go_wp2
          refine wp_region_quiet_ext (by kernel_rfl) (by kernel_rfl) ?_
          repeat (go_big_quiet_step (first | (go_at_call 26; with_reducible exact Calls.ext_of (HVx.out _)) | (go_at_call 26; with_reducible exact Calls.ext_of (HVy.out _)) | (go_at_call 27; exact Calls.ext_of (HCm.out _))))
          refine wpQuiet_nil ?_
          intro _ hw'
          obtain ⟨nq, hw''⟩ := hw'
          subst hw''
          have hE := HB.out.trans ((ext_below wr nq).mono HB.out.size)
          have HEW := Lib.hid (HBW.out.trans ((ext_below wr nq).mono HBW.out.size))
          generalize ext wr nq = w3 at *
          go_wp2
          go_ret
          refine ⟨ret_bool ?_, HEW.out⟩
          rw [HR.out, eq_comm, Bool.and_eq_false_iff]
          left
          rw [← Bool.not_eq_true, List.all_eq_true]
          intro hall
          have := hall _ HM.out
          simp only [HP.out, HV.out, Bool.false_and, Bool.and_false, Bool.false_eq_true] at this
      · have HV : Hid ((validR x && (validR y && !decide (0 < cmpR x y))) = false) := by unfold Hid; rw [Bool.not_eq_true] at vx; rw [vx]; simp
        rw [Bool.not_eq_true] at vx
        rw [vx] at HVx
        clear vx
        go_wp2
        refine wp_region_quiet_ext (by kernel_rfl) (by kernel_rfl) ?_
        repeat (go_big_quiet_step (first | (go_at_call 26; with_reducible exact Calls.ext_of (HVx.out _)) | (go_at_call 26; with_reducible exact Calls.ext_of (HVy.out _)) | (go_at_call 27; exact Calls.ext_of (HCm.out _))))
        refine wpQuiet_nil ?_
        intro _ hw'
        obtain ⟨nq, hw''⟩ := hw'
        subst hw''
        have hE := HB.out.trans ((ext_below wr nq).mono HB.out.size)
        have HEW := Lib.hid (HBW.out.trans ((ext_below wr nq).mono HBW.out.size))
        generalize ext wr nq = w3 at *
        go_wp2
        go_ret
        refine ⟨ret_bool ?_, HEW.out⟩
        rw [HR.out, eq_comm, Bool.and_eq_false_iff]
        left
        rw [← Bool.not_eq_true, List.all_eq_true]
        intro hall
        have := hall _ HM.out
        simp only [HP.out, HV.out, Bool.false_and, Bool.and_false, Bool.false_eq_true] at this
    · obtain rfl : j = lo.length := by omega
      have hz : ((lo.zip hi).take lo.length) = lo.zip hi := List.take_of_length_le (by rw [List.length_zip]; omega)
      have HL : Hid ((lo.zip hi).all (fun p => pairOK p.1 p.2) = true) := by have := HA.out; rwa [hz] at this
      have HWb := Lib.hid hbw
      have hwl := hbw.size
      clear HA hlt hz hb hbw
      go_wp2
      clear x0 x1 x2 x3 x4 x5 x6 x7
      obtain ⟨wo, hwo⟩ : ∃ wo : World, wo = wr := ⟨_, rfl⟩
      subst hwo
      go_loopw [76] (fun i wr => ∃ j : Nat, j ≤ err.length ∧ i = .int .i64 (j : Int) ∧ Hid ((err.take j).all errOK = true) ∧ Below wo.heap.size wo wr) (fun i _ => err.length - (intOf i).toNat)
      case atStart => exact ⟨0, Nat.zero_le _, rfl, rfl, Below.refl _ _⟩
      case round =>
        obtain ⟨j, hj, rfl, HA, hb⟩ := hrel
        have hbw := HWb.out.trans (hb.mono hwl)
        by_cases hlt : j < err.length
        · obtain ⟨bl, ol, x, an, ad, cn, cd, rfl, hbl, hx, l0, l1, l2, hxv⟩ := (H5.out.below hbw).pick hlt
          have hSx := HS3.out x (List.mem_of_getElem? hx)
          have HT := Lib.hid (take_succ_at hx)
          have HM := Lib.hid (List.mem_of_getElem? hx)
          have hbA : Below wr.heap.size wr (wr.alloc (.cells #[.bool x.neg, .slice an x.num.length cn, .slice ad x.den.length cd] 44)) := (Below.refl _ _).alloc (Nat.le_refl _) _
          have HVx := Lib.hid (rValid (hxv.below hbA) (by have := hSx.1; omega) (by have := hSx.2; omega))
          have hbx3 := Box3.alloc wr (.bool x.neg) (.slice an x.num.length cn) (.slice ad x.den.length cd) 44
          have HBA := Lib.hid (hb.trans (hbA.mono hb.size))
          have HBX := Lib.hid hbx3
          have HP : Hid (errOK x = (validR x && !x.neg)) := rfl
          have hsz := hb.size
          have HSz := Lib.hid hsz
          clear hb hbw hSx hx hxv hbA hbx3 hsz
          by_cases vx : validR x = true
          · rw [vx] at HVx
            by_cases vn : x.neg = true
            · have HV : Hid (errOK x = false) := by unfold Hid; rw [HP.out, vn]; simp
              rw [vn] at l0 HVx HBX HBA
              clear vx vn
              go_wp2_with fail
              refine HVx.out.mono ?_
              rintro e w4 ⟨rfl, hb4⟩
              obtain ⟨r0, r1, r2, _, _⟩ := HBX.out.below hb4
              have HE := Lib.hid ((HBA.out.trans (hb4.mono HBA.out.size)))
              clear hb4
              go_wp2
              go_ret
              refine ⟨ret_bool ?_, HWb.out.trans (HE.out.mono hwl)⟩
              rw [HR.out, eq_comm, Bool.and_eq_false_iff]
              right
              rw [← Bool.not_eq_true, List.all_eq_true]
              intro hall
              have := hall _ HM.out
              rw [HV.out] at this
              cases this
            · rw [Bool.not_eq_true] at vn
              have HV : Hid (errOK x = true) := by unfold Hid; rw [HP.out, vn, vx]; rfl
              rw [vn] at l0 HVx HBX HBA
              clear vx vn
              go_wp2_with fail
              refine HVx.out.mono ?_
              rintro e w4 ⟨rfl, hb4⟩
              obtain ⟨r0, r1, r2, _, _⟩ := HBX.out.below hb4
              have HE := Lib.hid ((HBA.out.trans (hb4.mono HBA.out.size)))
              clear hb4
              go_wp2
              go_roundw
              case rel => exact ⟨j + 1, hlt, by go_num, by unfold Hid; rw [HT.out, List.all_append, HA.out, List.all_cons, List.all_nil, HV.out]; rfl, HE.out⟩
              case measure => simp [intOf]; omega
          · rw [Bool.not_eq_true] at vx
            have HV : Hid (errOK x = false) := by unfold Hid; rw [HP.out, vx]; rfl
            rw [vx] at HVx
            clear vx
            go_wp2_with fail
            refine HVx.out.mono ?_
            rintro e w4 ⟨rfl, hb4⟩
            have HE := Lib.hid ((HBA.out.trans (hb4.mono HBA.out.size)))
            clear hb4
            go_wp2
            go_ret
            refine ⟨ret_bool ?_, HWb.out.trans (HE.out.mono hwl)⟩
            rw [HR.out, eq_comm, Bool.and_eq_false_iff]
            right
            rw [← Bool.not_eq_true, List.all_eq_true]
            intro hall
            have := hall _ HM.out
            rw [HV.out] at this
            cases this
        · obtain rfl : j = err.length := by omega
          have HE : Hid (err.all errOK = true) := by have := HA.out; rwa [List.take_length] at this
          have HBW := Lib.hid hbw
          clear hb hbw HA hlt
          go_wp2
          go_ret
          exact ⟨ret_bool (by rw [HR.out, HL.out, HE.out]; rfl), HBW.out⟩

theorem kBounds {w : World} {v : Value} {k : KerL} (hv : KerV w v k) (hs : 0 < k.sizes.length) (ho1 : 0 ≤ k.output) (ho2 : k.output < k.sizes.length)
    (hS1 : ∀ x ∈ k.lo, x.Short) (hS2 : ∀ x ∈ k.hi, x.Short) (hS3 : ∀ x ∈ k.err, x.Short) :
    Calls Tryz.prog 17 #[v] w fun e w' => e = .returned (.bool (boundsL k)) ∧ Below w.heap.size w w' := by
  by_cases h : (k.lo.length : Int) = k.sizes.getD 0 0 ∧ (k.hi.length : Int) = k.sizes.getD 0 0 ∧ (k.err.length : Int) = k.sizes.getD k.output.toNat 0
  · exact kBounds_rest hv hs ho1 ho2 hS1 hS2 hS3 h
  · exact kBounds_sizes hv hs ho1 ho2 h

end Go.Proofs.YthlmgejikbmmaaaGreat

/-
  The canonical fields of a rational number, and what the operations on fields are on numbers. No Go in sight.
-/
namespace Go.Proofs.YthlmgejikbmmaaaGreat

/-- The number for which three fields stand. -/
def ratOf (x : RatL) : Rat := mkRat (sgn x.neg (lval x.num)) (underN x.den)
/-- The canonical fields of a number. -/
def ratL (q : Rat) : RatL := ⟨decide (q.num < 0), limbs q.num.natAbs, if q.den = 1 then [] else limbs q.den⟩

theorem sgn_natAbs (neg : Bool) (n : Nat) : (sgn neg n).natAbs = n := by cases neg <;> simp [sgn]
theorem quotN_ratL (neg : Bool) (n : Nat) {d : Nat} (hd : 0 < d) : quotN neg n d = ratL (mkRat (sgn neg n) d) := by
  have hg : 0 < Nat.gcd n d := Nat.gcd_pos_of_pos_right _ hd
  obtain ⟨k, hk⟩ := Nat.gcd_dvd_left n d
  rw [Rat.mkRat_def, dif_neg (by omega), Rat.normalize_eq]
  unfold quotN ratL
  simp only [sgn_natAbs]
  have e : sgn neg n / ((Nat.gcd n d : Nat) : Int) = sgn neg (n / Nat.gcd n d) := by
    generalize Nat.gcd n d = g at *
    subst hk
    rw [Nat.mul_div_cancel_left _ hg]
    cases neg
    · simp only [sgn]; simp; rw [Int.mul_ediv_cancel_left _ (by omega)]
    · simp only [sgn]; simp; rw [← Int.mul_neg, Int.mul_ediv_cancel_left _ (by omega)]
  rw [e, sgn_natAbs]
  congr 1
  have h0 : n = 0 ↔ n / Nat.gcd n d = 0 := by
    constructor
    · rintro rfl; simp
    · intro h
      generalize Nat.gcd n d = g at *
      subst hk
      rw [Nat.mul_div_cancel_left _ hg] at h
      rw [h, Nat.mul_zero]
  generalize n / Nat.gcd n d = q at *
  by_cases hn : n = 0
  · rw [h0.1 hn]; cases neg <;> simp [sgn, hn]
  · have hq : q ≠ 0 := fun h => hn (h0.2 h)
    cases neg
    · simp [sgn]
    · simp [sgn, hn]; omega
theorem canonL_ratL (x : RatL) : canonL x = ratL (ratOf x) := quotN_ratL _ _ (underN_pos _)
theorem ratL_lim (q : Rat) : (ratL q).Lim := by
  refine ⟨lim_limbs _, ?_⟩
  unfold ratL
  dsimp only
  split
  · intro d hd; simp at hd
  · exact lim_limbs _
theorem underN_ratL (q : Rat) : underN (ratL q).den = q.den := by
  unfold ratL underN
  dsimp only
  have := q.den_nz
  by_cases h : q.den = 1
  · rw [if_pos h, lval_nil, if_pos rfl, h]
  · rw [if_neg h, lval_limbs, if_neg this]
theorem sgn_ratL (q : Rat) : sgn (ratL q).neg (lval (ratL q).num) = q.num := by
  unfold ratL sgn
  dsimp only
  rw [lval_limbs]
  by_cases h : q.num < 0
  · rw [decide_eq_true h]; simp; omega
  · rw [decide_eq_false h]; simp; omega
theorem ratOf_ratL (q : Rat) : ratOf (ratL q) = q := by
  unfold ratOf; rw [underN_ratL, sgn_ratL, Rat.mkRat_self]
theorem ratL_inj {p q : Rat} (h : ratL p = ratL q) : p = q := by rw [← ratOf_ratL p, h, ratOf_ratL]
theorem valid_ratL (q : Rat) : ratL q = canonL (ratL q) := by rw [canonL_ratL, ratOf_ratL]
theorem neg_ratL (q : Rat) : (ratL q).neg = decide (q < 0) := by
  unfold ratL
  dsimp only
  rw [decide_eq_decide]
  have := @Rat.num_nonneg q
  rw [← Rat.not_le, ← this]
  omega

theorem sgn_mul (a b : Bool) (n m : Nat) : sgn (a != b) (n * m) = sgn a n * sgn b m := by
  cases a <;> cases b <;> simp [sgn, Int.neg_mul, Int.mul_neg]
theorem mulQ (a b : Bool) (n m d e : Nat) : mkRat (sgn (a != b) (n * m)) (d * e) = mkRat (sgn a n) d * mkRat (sgn b m) e := by
  rw [sgn_mul, Rat.mkRat_mul_mkRat]
theorem addQ (a b : Bool) (n m : Nat) {d e : Nat} (hd : 0 < d) (he : 0 < e) : mkRat (sgn a (n * e) + sgn b (m * d)) (d * e) = mkRat (sgn a n) d + mkRat (sgn b m) e := by
  rw [Rat.mkRat_add_mkRat _ _ (by omega) (by omega)]
  congr 1
  cases a <;> cases b <;> simp [sgn, Int.neg_mul]
theorem inv_mkRat' (b : Bool) (m e : Nat) : (mkRat (sgn b m) e)⁻¹ = mkRat (sgn b e) m := by
  rw [Rat.mkRat_eq_div, Rat.mkRat_eq_div, Rat.div_def, Rat.div_def, Rat.inv_mul_rev, Rat.inv_inv]
  cases b
  · rfl
  · have h : (-((m : Int) : Rat))⁻¹ = -((m : Int) : Rat)⁻¹ := by grind
    simp only [sgn, if_true, Rat.intCast_neg, h, Rat.mul_neg, Rat.neg_mul]
    rfl
theorem divQ (a b : Bool) (n m d e : Nat) : mkRat (sgn (a != b) (n * e)) (d * m) = mkRat (sgn a n) d / mkRat (sgn b m) e := by
  rw [Rat.div_def, inv_mkRat' b m e, sgn_mul, Rat.mkRat_mul_mkRat]
theorem sgn_not (a : Bool) (n : Nat) : sgn (!a) n = -sgn a n := by cases a <;> simp [sgn]
theorem negQ (a : Bool) (n d : Nat) : mkRat (sgn (!a) n) d = -mkRat (sgn a n) d := by rw [sgn_not, Rat.neg_mkRat]

/-- The sign of a number. -/
def signQ (q : Rat) : Int := if q < 0 then -1 else if 0 < q then 1 else 0
theorem mkRat_pos_iff {z : Int} {d : Nat} (hd : 0 < d) : 0 < mkRat z d ↔ 0 < z := by
  rw [Rat.mkRat_eq_div]
  have h : (0 : Rat) < (d : Rat) := by exact_mod_cast hd
  rw [Rat.lt_div_iff h, Rat.zero_mul]
  exact Rat.intCast_lt_intCast (a := 0)
theorem mkRat_neg_iff {z : Int} {d : Nat} (hd : 0 < d) : mkRat z d < 0 ↔ z < 0 := by
  rw [Rat.mkRat_eq_div]
  have h : (0 : Rat) < (d : Rat) := by exact_mod_cast hd
  rw [Rat.div_lt_iff h, Rat.zero_mul]
  exact Rat.intCast_lt_intCast (b := 0)
theorem signZ_signQ (x : RatL) : signZ x.neg (lval x.num) = signQ (ratOf x) := by
  unfold signQ ratOf
  simp only [mkRat_neg_iff (underN_pos _), mkRat_pos_iff (underN_pos _)]
  unfold signZ sgn
  cases x.neg <;> by_cases h : lval x.num = 0 <;> simp [h] <;> omega
theorem signQ_le (q : Rat) : signQ q ≤ 0 ↔ q ≤ 0 := by
  unfold signQ
  by_cases h1 : q < 0
  · rw [if_pos h1]; simp; exact Rat.le_of_lt h1
  · rw [if_neg h1]
    by_cases h2 : 0 < q
    · rw [if_pos h2]; simp; exact Rat.not_le.2 h2
    · rw [if_neg h2]; simp; exact Rat.not_lt.1 h2
/-- What Cmp says. -/
def cmpQ (p q : Rat) : Int := if p < q then -1 else if q < p then 1 else 0
theorem signQ_sub (p q : Rat) : signQ (p - q) = cmpQ p q := by
  unfold signQ cmpQ
  have h1 : p - q < 0 ↔ p < q := by grind
  have h2 : 0 < p - q ↔ q < p := by grind
  simp only [h1, h2]

end Go.Proofs.YthlmgejikbmmaaaGreat

/-
  How long the limbs of a rational number are, through the operations. No Go in sight.
-/
namespace Go.Proofs.YthlmgejikbmmaaaGreat

/-- Both lists of limbs are short. -/
structure RatLe (x : RatL) (k : Nat) : Prop where
  num : x.num.length ≤ k
  den : x.den.length ≤ k
/-- Numerator and denominator have at most k limbs. -/
structure QLe (q : Rat) (k : Nat) : Prop where
  num : q.num.natAbs < 4294967296 ^ k
  den : q.den < 4294967296 ^ k
theorem QLe.mono {q : Rat} {k m : Nat} (h : QLe q k) (hm : k ≤ m) : QLe q m :=
  ⟨Nat.lt_of_lt_of_le h.num (Nat.pow_le_pow_right (by omega) hm), Nat.lt_of_lt_of_le h.den (Nat.pow_le_pow_right (by omega) hm)⟩
theorem RatLe.mono {x : RatL} {k m : Nat} (h : RatLe x k) (hm : k ≤ m) : RatLe x m := ⟨Nat.le_trans h.num hm, Nat.le_trans h.den hm⟩
theorem QLe.mk' {z : Int} {d k : Nat} (h1 : z.natAbs < 4294967296 ^ k) (h2 : d < 4294967296 ^ k) (hd : 0 < d) : QLe (mkRat z d) k := by
  rw [Rat.mkRat_def, dif_neg (by omega), Rat.normalize_eq]
  refine ⟨Nat.lt_of_le_of_lt ?_ h1, Nat.lt_of_le_of_lt (Nat.div_le_self _ _) h2⟩
  rw [Int.natAbs_ediv_of_dvd (Int.ofNat_dvd_left.2 (Nat.gcd_dvd_left _ _))]
  exact Nat.div_le_self _ _
theorem QLe.ratL {q : Rat} {k : Nat} (h : QLe q k) : RatLe (ratL q) k := by
  refine ⟨limbs_len_le h.num, ?_⟩
  show (if q.den = 1 then [] else limbs q.den).length ≤ k
  split
  · simp
  · exact limbs_len_le h.den
theorem underN_lt {d : List Nat} {k : Nat} (hl : Lim d) (h : d.length ≤ k) : underN d < 4294967296 ^ (k + 1) := by
  have h1 := Nat.lt_of_lt_of_le (lval_lt hl) (Nat.pow_le_pow_right (show 0 < 4294967296 by omega) (show d.length ≤ k + 1 by omega))
  have h2 : 4294967296 ^ 1 ≤ 4294967296 ^ (k + 1) := Nat.pow_le_pow_right (by omega) (by omega)
  unfold underN
  split
  · omega
  · exact h1
theorem QLe.ratOf {x : RatL} {k : Nat} (hx : x.Lim) (h : RatLe x k) : QLe (ratOf x) (k + 1) := by
  refine QLe.mk' ?_ (underN_lt hx.2 h.den) (underN_pos _)
  rw [sgn_natAbs]
  exact Nat.lt_of_lt_of_le (lval_lt hx.1) (Nat.pow_le_pow_right (by omega) (Nat.le_succ_of_le h.num))
theorem QLe.neg {q : Rat} {k : Nat} (h : QLe q k) : QLe (-q) k := ⟨by rw [Rat.neg_num, Int.natAbs_neg]; exact h.num, by rw [Rat.neg_den]; exact h.den⟩
theorem QLe.mul {p q : Rat} {a b : Nat} (hp : QLe p a) (hq : QLe q b) : QLe (p * q) (a + b) := by
  rw [← Rat.mkRat_self p, ← Rat.mkRat_self q, Rat.mkRat_mul_mkRat]
  refine QLe.mk' ?_ ?_ (Nat.mul_pos p.den_pos q.den_pos)
  · rw [Int.natAbs_mul, Nat.pow_add]; exact Nat.mul_lt_mul'' hp.num hq.num
  · rw [Nat.pow_add]; exact Nat.mul_lt_mul'' hp.den hq.den
theorem QLe.add {p q : Rat} {a b : Nat} (hp : QLe p a) (hq : QLe q b) : QLe (p + q) (a + b + 1) := by
  rw [← Rat.mkRat_self p, ← Rat.mkRat_self q, Rat.mkRat_add_mkRat _ _ p.den_nz q.den_nz]
  have h1 : (p.num * (q.den : Int)).natAbs < 4294967296 ^ a * 4294967296 ^ b := by
    rw [Int.natAbs_mul, Int.natAbs_natCast]; exact Nat.mul_lt_mul'' hp.num hq.den
  have h2 : (q.num * (p.den : Int)).natAbs < 4294967296 ^ a * 4294967296 ^ b := by
    rw [Int.natAbs_mul, Int.natAbs_natCast, Nat.mul_comm (4294967296 ^ a)]; exact Nat.mul_lt_mul'' hq.num hp.den
  refine QLe.mk' ?_ ?_ (Nat.mul_pos p.den_pos q.den_pos)
  · have h3 := Int.natAbs_add_le (p.num * (q.den : Int)) (q.num * (p.den : Int))
    rw [Nat.pow_succ, Nat.pow_add]
    omega
  · have h3 := Nat.mul_lt_mul'' hp.den hq.den
    rw [Nat.pow_succ, Nat.pow_add]
    omega
theorem QLe.sub {p q : Rat} {a b : Nat} (hp : QLe p a) (hq : QLe q b) : QLe (p - q) (a + b + 1) := by
  rw [Rat.sub_eq_add_neg]; exact hp.add hq.neg
theorem QLe.inv {q : Rat} {k : Nat} (h : QLe q k) : QLe q⁻¹ k := by
  by_cases h0 : q = 0
  · subst h0; rw [Rat.inv_zero]; exact h
  · have hn : q.num ≠ 0 := fun e => h0 (Rat.num_eq_zero.1 e)
    have e : q⁻¹ = mkRat (sgn (decide (q.num < 0)) q.den) q.num.natAbs := by
      have h1 : q = mkRat (sgn (decide (q.num < 0)) q.num.natAbs) q.den := by
        have : sgn (decide (q.num < 0)) q.num.natAbs = q.num := by
          unfold sgn
          by_cases h : q.num < 0
          · rw [decide_eq_true h]; simp; omega
          · rw [decide_eq_false h]; simp; omega
        rw [this, Rat.mkRat_self]
      conv => lhs; rw [h1]
      rw [inv_mkRat']
    rw [e]
    exact QLe.mk' (by rw [sgn_natAbs]; exact h.den) h.num (by omega)
theorem QLe.div {p q : Rat} {a b : Nat} (hp : QLe p a) (hq : QLe q b) : QLe (p / q) (a + b) := by
  rw [Rat.div_def]; exact hp.mul hq.inv

end Go.Proofs.YthlmgejikbmmaaaGreat

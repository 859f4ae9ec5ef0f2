/-
  Contracts of the functions that the statements reach, in the order in which they are built: KerC, KerD, KerE, KerF.
-/
import Derived.Test.YthlmgejikbmmaaaS7
import Derived.Test.YthlmgejikbmmaaaS4
set_option linter.unusedVariables false
set_option linter.unusedSimpArgs false
set_option linter.constructorNameAsVariable false
set_option linter.deprecated false

/-
  The walk of kernel.fits at OpGather: by contract.
-/
namespace Go.Proofs.Ythlmgejikbmmaaa
open Go.RowKit

set_option maxRecDepth 100000 in
set_option maxHeartbeats 3200000 in
theorem kFits1 (d s o c i mu h : Int) (a1 a2 a3 : Option Addr) (L : List Int) (l2 l3 c1 c2 c3 : Nat) (hl2 : l2 ≤ 9223372036854775807) (hl3 : l3 ≤ 9223372036854775807) (n m t : Int) (hm1 : 1 ≤ m) (hm2 : m ≤ 262144) (w : World) {F : Nat → Prop} (hL : Ints w F a1 L) :
    Calls Try.prog 43 #[.agg #[.int .i64 1, .int .i64 d, .int .i64 s, .int .i64 o, .int .i64 c, .int .i64 i, .slice a1 L.length c1, .slice a2 l2 c2, .slice a3 l3 c3, .int .i64 mu, .int .i64 h], .int .i64 n, .int .i64 m, .int .i64 t] w
      fun e w' => e = .returned (.bool (decide (o = 0 ∧ c = 0 ∧ i = 0 ∧ mu = 0 ∧ h = 0 ∧ l2 = 0 ∧ l3 = 0 ∧ (L.length : Int) = n) && L.all (fun x => wthn x (-1) (m - 1)))) ∧ Below w.heap.size w w' := by
  have hl := hL.len
  have HL := Lib.hid hL
  clear hL
  go_enter Try.func43, Try.ntmps43
  go_wp2
  go_loop [24] (fun j => ∃ k : Nat, k ≤ L.length ∧ j = .int .i64 (k : Int) ∧ Hid ((L.take k).all (fun x => wthn x (-1) (m - 1)) = true)) (fun j => L.length - (intOf j).toNat)
  case atStart => exact ⟨0, Nat.zero_le _, rfl, rfl⟩
  case round =>
    obtain ⟨k, hk, rfl, HA⟩ := hrel
    by_cases hlt : k < L.length
    · obtain ⟨b, off, x, rfl, hcell, hx, hdrop, hbs, _, hx1, hx2⟩ := HL.out.pick2 hlt
      have HX : Hid (L.all (fun x => wthn x (-1) (m - 1)) = true → wthn x (-1) (m - 1) = true) := fun h => List.all_eq_true.1 h x (List.mem_of_getElem? hx)
      have HN : Hid ((L.take (k + 1)).all (fun x => wthn x (-1) (m - 1)) = ((L.take k).all (fun x => wthn x (-1) (m - 1)) && wthn x (-1) (m - 1))) := by
        unfold Hid
        rw [List.take_add_one, hx]; simp
      clear hdrop hx
      by_cases hw : wthn x (-1) (m - 1) = true
      · have HK := Lib.hid (fun wv => kWithin x (-1) (m - 1) wv)
        have HW := Lib.hid hw
        rw [hw] at HK
        clear hw
        go_wp2_with fail
        refine (HK.out _).mono ?_
        rintro e w2 ⟨rfl, rfl⟩
        go_wp2
        go_round
        case rel => exact ⟨k + 1, hlt, by go_num, by unfold Hid; rw [HN.out, HA.out, HW.out]; rfl⟩
        case measure => simp [intOf]; omega
      · have hf : L.all (fun x => wthn x (-1) (m - 1)) = false := by rw [← Bool.not_eq_true]; exact fun h => hw (HX.out h)
        have HF := Lib.hid hf
        rw [Bool.not_eq_true] at hw
        have HK := Lib.hid (fun wv => kWithin x (-1) (m - 1) wv)
        rw [hw] at HK
        clear hw hf
        go_wp2_with fail
        refine (HK.out _).mono ?_
        rintro e w2 ⟨rfl, rfl⟩
        go_wp2
        go_ret
        exact ⟨ret_bool (by rw [HF.out, Bool.and_false]), ((Below.refl _ _).alloc (Nat.le_refl _) _).alloc (by simp) _⟩
    · obtain rfl : k = L.length := by omega
      have HT : Hid (L.all (fun x => wthn x (-1) (m - 1)) = true) := by have := HA.out; rwa [List.take_length] at this
      clear HA hlt
      go_wp2_with fail
      refine (kBare _ _ _ _ _ _ _ _ _ _ _ _ _ _ _ _ _ (Nat.zero_le _) hl2 hl3 _).mono ?_
      rintro e w1 ⟨rfl, hb⟩
      have HB := Lib.hid (two_allocs hb)
      have hcell := (bcell hb).1
      have hz : w.heap.size + 1 + 1 ≤ w1.heap.size := by have := hb.size; simpa using this
      clear hb
      go_wp2
      all_goals
        go_ret
        refine ⟨ret_bool ?_, HB.out⟩
        rw [HT.out, Bool.and_true, Bool.eq_iff_iff]
        simp
        try omega

end Go.Proofs.Ythlmgejikbmmaaa

/-
  The walk of kernel.fits at OpGemm: by contract.
-/
namespace Go.Proofs.Ythlmgejikbmmaaa
open Go.RowKit

/-- A struct of eleven cells in block g. -/
structure Box11 (w : World) (g : Nat) (p0 p1 p2 p3 p4 p5 p6 p7 p8 p9 p10 : Value) : Prop where
  c0 : w.cell? ⟨g, 0, none⟩ = some p0
  c1 : w.cell? ⟨g, 1, none⟩ = some p1
  c2 : w.cell? ⟨g, 2, none⟩ = some p2
  c3 : w.cell? ⟨g, 3, none⟩ = some p3
  c4 : w.cell? ⟨g, 4, none⟩ = some p4
  c5 : w.cell? ⟨g, 5, none⟩ = some p5
  c6 : w.cell? ⟨g, 6, none⟩ = some p6
  c7 : w.cell? ⟨g, 7, none⟩ = some p7
  c8 : w.cell? ⟨g, 8, none⟩ = some p8
  c9 : w.cell? ⟨g, 9, none⟩ = some p9
  c10 : w.cell? ⟨g, 10, none⟩ = some p10
  lt : g < w.heap.size
theorem Box11.below {w w' : World} {g : Nat} {p0 p1 p2 p3 p4 p5 p6 p7 p8 p9 p10 : Value} (h : Box11 w g p0 p1 p2 p3 p4 p5 p6 p7 p8 p9 p10) (hb : Below w.heap.size w w') : Box11 w' g p0 p1 p2 p3 p4 p5 p6 p7 p8 p9 p10 :=
  ⟨(hb.cell h.lt).trans h.c0, (hb.cell h.lt).trans h.c1, (hb.cell h.lt).trans h.c2, (hb.cell h.lt).trans h.c3, (hb.cell h.lt).trans h.c4, (hb.cell h.lt).trans h.c5, (hb.cell h.lt).trans h.c6, (hb.cell h.lt).trans h.c7, (hb.cell h.lt).trans h.c8, (hb.cell h.lt).trans h.c9, (hb.cell h.lt).trans h.c10, Nat.lt_of_lt_of_le h.lt hb.size⟩
theorem Box11.alloc (w : World) (p0 p1 p2 p3 p4 p5 p6 p7 p8 p9 p10 : Value) (T : Nat) : Box11 (w.alloc (.cells #[p0, p1, p2, p3, p4, p5, p6, p7, p8, p9, p10] T)) w.heap.size p0 p1 p2 p3 p4 p5 p6 p7 p8 p9 p10 := by
  refine ⟨?_, ?_, ?_, ?_, ?_, ?_, ?_, ?_, ?_, ?_, ?_, by simp⟩ <;> (rw [World.cell?_alloc_at _ _ _ _ rfl]; rfl)

/-- The sizes of OpGemm's operands. -/
theorem gemm_bd {n c i : Int} {l3 : Nat} (hn1 : 1 ≤ n) (hn2 : n ≤ 262144) (hc1 : 1 ≤ c) (hc2 : c ≤ 262144) : n.tmod c = n % c ∧ n.tdiv c = n / c ∧ 0 ≤ n / c ∧ n / c ≤ 262144 ∧ 0 ≤ n % c ∧ n % c ≤ 262144 := by
  have h1 := Int.emod_nonneg n (show c ≠ 0 by omega)
  have h2 := Int.emod_lt_of_pos n (show 0 < c by omega)
  have h3 : 0 ≤ n / c := Int.ediv_nonneg (by omega) (by omega)
  have h4 : n / c ≤ n := Int.ediv_le_self _ (by omega)
  exact ⟨Int.tmod_eq_emod_of_nonneg (by omega), Int.tdiv_eq_ediv_of_nonneg (by omega), h3, by omega, h1, by omega⟩

set_option maxRecDepth 100000 in
set_option maxHeartbeats 3200000 in
theorem kFits2_b (d s o c i mu h : Int) (a1 a2 a3 : Option Addr) (l1 l2 l3 c1 c2 c3 : Nat) (hl1 : l1 ≤ 9223372036854775807) (hl2 : l2 ≤ 9223372036854775807) (hl3 : l3 ≤ 9223372036854775807) (n m t : Int) (hn1 : 1 ≤ n) (hn2 : n ≤ 262144) (hb0 : ¬ (o = 0 ∧ mu = 0 ∧ h = 0 ∧ l1 = 0)) (w : World) :
    Calls Try.prog 43 #[.agg #[.int .i64 2, .int .i64 d, .int .i64 s, .int .i64 o, .int .i64 c, .int .i64 i, .slice a1 l1 c1, .slice a2 l2 c2, .slice a3 l3 c3, .int .i64 mu, .int .i64 h], .int .i64 n, .int .i64 m, .int .i64 t] w
      fun e w' => e = .returned (.bool false) ∧ Below w.heap.size w w' := by
  have HKB : Hid (∀ wv, Calls Try.prog 65 #[.agg #[.int .i64 0, .int .i64 0, .int .i64 0, .int .i64 o, .int .i64 0, .int .i64 0, .slice a1 l1 c1, .slice none 0 0, .slice none 0 0, .int .i64 mu, .int .i64 h]] wv fun e w' => e = .returned (.bool false) ∧ Below wv.heap.size wv w') := by
    intro wv
    refine (kBare 0 0 0 o 0 0 mu h a1 none none l1 0 0 c1 0 0 hl1 (Nat.zero_le _) (Nat.zero_le _) wv).mono ?_
    rintro e w1 ⟨rfl, hb⟩
    exact ⟨ret_bool (by rw [decide_eq_false_iff_not]; omega), hb⟩
  clear hb0
  go_enter Try.func43, Try.ntmps43
  go_wp2
  have hb4' := (Box11.alloc w (.int .i64 2) (.int .i64 d) (.int .i64 s) (.int .i64 o) (.int .i64 c) (.int .i64 i) (.slice a1 l1 c1) (.slice a2 l2 c2) (.slice a3 l3 c3) (.int .i64 mu) (.int .i64 h) 50).below ((Below.refl _ _).alloc (Nat.le_refl _) (.cells #[.int .i64 0, .int .i64 0, .int .i64 0, .int .i64 o, .int .i64 0, .int .i64 0, .slice a1 l1 c1, .slice none 0 0, .slice none 0 0, .int .i64 mu, .int .i64 h] 50))
  have hb9 := Box11.alloc (w.alloc (.cells #[.int .i64 2, .int .i64 d, .int .i64 s, .int .i64 o, .int .i64 c, .int .i64 i, .slice a1 l1 c1, .slice a2 l2 c2, .slice a3 l3 c3, .int .i64 mu, .int .i64 h] 50)) (.int .i64 0) (.int .i64 0) (.int .i64 0) (.int .i64 o) (.int .i64 0) (.int .i64 0) (.slice a1 l1 c1) (.slice none 0 0) (.slice none 0 0) (.int .i64 mu) (.int .i64 h) 50
  have hB0 : Below w.heap.size w ((w.alloc (.cells #[.int .i64 2, .int .i64 d, .int .i64 s, .int .i64 o, .int .i64 c, .int .i64 i, .slice a1 l1 c1, .slice a2 l2 c2, .slice a3 l3 c3, .int .i64 mu, .int .i64 h] 50)).alloc (.cells #[.int .i64 0, .int .i64 0, .int .i64 0, .int .i64 o, .int .i64 0, .int .i64 0, .slice a1 l1 c1, .slice none 0 0, .slice none 0 0, .int .i64 mu, .int .i64 h] 50)) := ((Below.refl _ _).alloc (Nat.le_refl _) _).alloc (by simp) _
  simp only [World.size_alloc] at hb9
  generalize (w.alloc (.cells #[.int .i64 2, .int .i64 d, .int .i64 s, .int .i64 o, .int .i64 c, .int .i64 i, .slice a1 l1 c1, .slice a2 l2 c2, .slice a3 l3 c3, .int .i64 mu, .int .i64 h] 50)).alloc (.cells #[.int .i64 0, .int .i64 0, .int .i64 0, .int .i64 o, .int .i64 0, .int .i64 0, .slice a1 l1 c1, .slice none 0 0, .slice none 0 0, .int .i64 mu, .int .i64 h] 50) = W at *
  have z0 := ext_cell hb9.c0 hb9.lt
  have z1 := ext_cell hb9.c1 hb9.lt
  have z2 := ext_cell hb9.c2 hb9.lt
  have z3 := ext_cell hb9.c3 hb9.lt
  have z4 := ext_cell hb9.c4 hb9.lt
  have z5 := ext_cell hb9.c5 hb9.lt
  have z6 := ext_cell hb9.c6 hb9.lt
  have z7 := ext_cell hb9.c7 hb9.lt
  have z8 := ext_cell hb9.c8 hb9.lt
  have z9 := ext_cell hb9.c9 hb9.lt
  have z10 := ext_cell hb9.c10 hb9.lt
  have y4 := ext_cell hb4'.c4 hb4'.lt
  have y5 := ext_cell hb4'.c5 hb4'.lt
  have y7 := ext_cell hb4'.c7 hb4'.lt
  have y8 := ext_cell hb4'.c8 hb4'.lt
  have HB := Lib.hid hB0
  clear hb4' hb9 hB0
  refine wp_region_quiet_ext (by kernel_rfl) (by kernel_rfl) ?_
  repeat (go_big_quiet_step (first | (go_at_call 65; exact Calls.ext_of (HKB.out _))))
  refine wpQuiet_nil ?_
  intro _ hw'
  obtain ⟨nq, hw''⟩ := hw'
  subst hw''
  have HE := Lib.hid (HB.out.trans ((ext_below W nq).mono HB.out.size))
  generalize ext W nq = w2 at *
  go_wp2
  go_ret
  exact ⟨rfl, HE.out⟩

set_option maxRecDepth 100000 in
set_option maxHeartbeats 3200000 in
theorem kFits2_c (d s o c i mu h : Int) (a1 a2 a3 : Option Addr) (l1 l2 l3 c1 c2 c3 : Nat) (hl1 : l1 ≤ 9223372036854775807) (hl2 : l2 ≤ 9223372036854775807) (hl3 : l3 ≤ 9223372036854775807) (n m t : Int) (hn1 : 1 ≤ n) (hn2 : n ≤ 262144) (hb0 : o = 0 ∧ mu = 0 ∧ h = 0 ∧ l1 = 0) (hc0 : ¬ (1 ≤ c ∧ c ≤ 262144)) (w : World) :
    Calls Try.prog 43 #[.agg #[.int .i64 2, .int .i64 d, .int .i64 s, .int .i64 o, .int .i64 c, .int .i64 i, .slice a1 l1 c1, .slice a2 l2 c2, .slice a3 l3 c3, .int .i64 mu, .int .i64 h], .int .i64 n, .int .i64 m, .int .i64 t] w
      fun e w' => e = .returned (.bool false) ∧ Below w.heap.size w w' := by
  have HKB : Hid (∀ wv, Calls Try.prog 65 #[.agg #[.int .i64 0, .int .i64 0, .int .i64 0, .int .i64 o, .int .i64 0, .int .i64 0, .slice a1 l1 c1, .slice none 0 0, .slice none 0 0, .int .i64 mu, .int .i64 h]] wv fun e w' => e = .returned (.bool true) ∧ Below wv.heap.size wv w') := by
    intro wv
    refine (kBare 0 0 0 o 0 0 mu h a1 none none l1 0 0 c1 0 0 hl1 (Nat.zero_le _) (Nat.zero_le _) wv).mono ?_
    rintro e w1 ⟨rfl, hb⟩
    exact ⟨ret_bool (by rw [decide_eq_true_eq]; omega), hb⟩
  have HWC : Hid (∀ wv, Calls Try.prog 42 #[.int .i64 c, .int .i64 1, .int .i64 262144] wv fun e w' => e = .returned (.bool false) ∧ wv = w') := by
    intro wv
    refine (kWithin c 1 262144 wv).mono ?_
    rintro e w1 ⟨rfl, rfl⟩
    exact ⟨ret_bool (by rw [← Bool.not_eq_true, wthn_iff]; omega), rfl⟩
  clear hb0 hc0
  go_enter Try.func43, Try.ntmps43
  go_wp2
  have hb4' := (Box11.alloc w (.int .i64 2) (.int .i64 d) (.int .i64 s) (.int .i64 o) (.int .i64 c) (.int .i64 i) (.slice a1 l1 c1) (.slice a2 l2 c2) (.slice a3 l3 c3) (.int .i64 mu) (.int .i64 h) 50).below ((Below.refl _ _).alloc (Nat.le_refl _) (.cells #[.int .i64 0, .int .i64 0, .int .i64 0, .int .i64 o, .int .i64 0, .int .i64 0, .slice a1 l1 c1, .slice none 0 0, .slice none 0 0, .int .i64 mu, .int .i64 h] 50))
  have hb9 := Box11.alloc (w.alloc (.cells #[.int .i64 2, .int .i64 d, .int .i64 s, .int .i64 o, .int .i64 c, .int .i64 i, .slice a1 l1 c1, .slice a2 l2 c2, .slice a3 l3 c3, .int .i64 mu, .int .i64 h] 50)) (.int .i64 0) (.int .i64 0) (.int .i64 0) (.int .i64 o) (.int .i64 0) (.int .i64 0) (.slice a1 l1 c1) (.slice none 0 0) (.slice none 0 0) (.int .i64 mu) (.int .i64 h) 50
  have hB0 : Below w.heap.size w ((w.alloc (.cells #[.int .i64 2, .int .i64 d, .int .i64 s, .int .i64 o, .int .i64 c, .int .i64 i, .slice a1 l1 c1, .slice a2 l2 c2, .slice a3 l3 c3, .int .i64 mu, .int .i64 h] 50)).alloc (.cells #[.int .i64 0, .int .i64 0, .int .i64 0, .int .i64 o, .int .i64 0, .int .i64 0, .slice a1 l1 c1, .slice none 0 0, .slice none 0 0, .int .i64 mu, .int .i64 h] 50)) := ((Below.refl _ _).alloc (Nat.le_refl _) _).alloc (by simp) _
  simp only [World.size_alloc] at hb9
  generalize (w.alloc (.cells #[.int .i64 2, .int .i64 d, .int .i64 s, .int .i64 o, .int .i64 c, .int .i64 i, .slice a1 l1 c1, .slice a2 l2 c2, .slice a3 l3 c3, .int .i64 mu, .int .i64 h] 50)).alloc (.cells #[.int .i64 0, .int .i64 0, .int .i64 0, .int .i64 o, .int .i64 0, .int .i64 0, .slice a1 l1 c1, .slice none 0 0, .slice none 0 0, .int .i64 mu, .int .i64 h] 50) = W at *
  have z0 := ext_cell hb9.c0 hb9.lt
  have z1 := ext_cell hb9.c1 hb9.lt
  have z2 := ext_cell hb9.c2 hb9.lt
  have z3 := ext_cell hb9.c3 hb9.lt
  have z4 := ext_cell hb9.c4 hb9.lt
  have z5 := ext_cell hb9.c5 hb9.lt
  have z6 := ext_cell hb9.c6 hb9.lt
  have z7 := ext_cell hb9.c7 hb9.lt
  have z8 := ext_cell hb9.c8 hb9.lt
  have z9 := ext_cell hb9.c9 hb9.lt
  have z10 := ext_cell hb9.c10 hb9.lt
  have y4 := ext_cell hb4'.c4 hb4'.lt
  have y5 := ext_cell hb4'.c5 hb4'.lt
  have y7 := ext_cell hb4'.c7 hb4'.lt
  have y8 := ext_cell hb4'.c8 hb4'.lt
  have HB := Lib.hid hB0
  clear hb4' hb9 hB0
  refine wp_region_quiet_ext (by kernel_rfl) (by kernel_rfl) ?_
  repeat (go_big_quiet_step (first | (go_at_call 65; exact Calls.ext_of (HKB.out _)) | (go_at_call 42; with_reducible exact Calls.ext_of_same (HWC.out _))))
  refine wpQuiet_nil ?_
  intro _ hw'
  obtain ⟨nq, hw''⟩ := hw'
  subst hw''
  have HE := Lib.hid (HB.out.trans ((ext_below W nq).mono HB.out.size))
  generalize ext W nq = w2 at *
  go_wp2
  go_ret
  exact ⟨rfl, HE.out⟩

set_option maxRecDepth 100000 in
set_option maxHeartbeats 3200000 in
theorem kFits2_i (d s o c i mu h : Int) (a1 a2 a3 : Option Addr) (l1 l2 l3 c1 c2 c3 : Nat) (hl1 : l1 ≤ 9223372036854775807) (hl2 : l2 ≤ 9223372036854775807) (hl3 : l3 ≤ 9223372036854775807) (n m t : Int) (hn1 : 1 ≤ n) (hn2 : n ≤ 262144) (hb0 : o = 0 ∧ mu = 0 ∧ h = 0 ∧ l1 = 0) (hc0 : 1 ≤ c ∧ c ≤ 262144) (hi0 : ¬ (1 ≤ i ∧ i ≤ 262144)) (w : World) :
    Calls Try.prog 43 #[.agg #[.int .i64 2, .int .i64 d, .int .i64 s, .int .i64 o, .int .i64 c, .int .i64 i, .slice a1 l1 c1, .slice a2 l2 c2, .slice a3 l3 c3, .int .i64 mu, .int .i64 h], .int .i64 n, .int .i64 m, .int .i64 t] w
      fun e w' => e = .returned (.bool false) ∧ Below w.heap.size w w' := by
  have HKB : Hid (∀ wv, Calls Try.prog 65 #[.agg #[.int .i64 0, .int .i64 0, .int .i64 0, .int .i64 o, .int .i64 0, .int .i64 0, .slice a1 l1 c1, .slice none 0 0, .slice none 0 0, .int .i64 mu, .int .i64 h]] wv fun e w' => e = .returned (.bool true) ∧ Below wv.heap.size wv w') := by
    intro wv
    refine (kBare 0 0 0 o 0 0 mu h a1 none none l1 0 0 c1 0 0 hl1 (Nat.zero_le _) (Nat.zero_le _) wv).mono ?_
    rintro e w1 ⟨rfl, hb⟩
    exact ⟨ret_bool (by rw [decide_eq_true_eq]; omega), hb⟩
  have HWC : Hid (∀ wv, Calls Try.prog 42 #[.int .i64 c, .int .i64 1, .int .i64 262144] wv fun e w' => e = .returned (.bool true) ∧ wv = w') := by
    intro wv
    refine (kWithin c 1 262144 wv).mono ?_
    rintro e w1 ⟨rfl, rfl⟩
    exact ⟨ret_bool (by rw [wthn_iff]; omega), rfl⟩
  have HWI : Hid (∀ wv, Calls Try.prog 42 #[.int .i64 i, .int .i64 1, .int .i64 262144] wv fun e w' => e = .returned (.bool false) ∧ wv = w') := by
    intro wv
    refine (kWithin i 1 262144 wv).mono ?_
    rintro e w1 ⟨rfl, rfl⟩
    exact ⟨ret_bool (by rw [← Bool.not_eq_true, wthn_iff]; omega), rfl⟩
  clear hb0 hc0 hi0
  go_enter Try.func43, Try.ntmps43
  go_wp2
  have hb4' := (Box11.alloc w (.int .i64 2) (.int .i64 d) (.int .i64 s) (.int .i64 o) (.int .i64 c) (.int .i64 i) (.slice a1 l1 c1) (.slice a2 l2 c2) (.slice a3 l3 c3) (.int .i64 mu) (.int .i64 h) 50).below ((Below.refl _ _).alloc (Nat.le_refl _) (.cells #[.int .i64 0, .int .i64 0, .int .i64 0, .int .i64 o, .int .i64 0, .int .i64 0, .slice a1 l1 c1, .slice none 0 0, .slice none 0 0, .int .i64 mu, .int .i64 h] 50))
  have hb9 := Box11.alloc (w.alloc (.cells #[.int .i64 2, .int .i64 d, .int .i64 s, .int .i64 o, .int .i64 c, .int .i64 i, .slice a1 l1 c1, .slice a2 l2 c2, .slice a3 l3 c3, .int .i64 mu, .int .i64 h] 50)) (.int .i64 0) (.int .i64 0) (.int .i64 0) (.int .i64 o) (.int .i64 0) (.int .i64 0) (.slice a1 l1 c1) (.slice none 0 0) (.slice none 0 0) (.int .i64 mu) (.int .i64 h) 50
  have hB0 : Below w.heap.size w ((w.alloc (.cells #[.int .i64 2, .int .i64 d, .int .i64 s, .int .i64 o, .int .i64 c, .int .i64 i, .slice a1 l1 c1, .slice a2 l2 c2, .slice a3 l3 c3, .int .i64 mu, .int .i64 h] 50)).alloc (.cells #[.int .i64 0, .int .i64 0, .int .i64 0, .int .i64 o, .int .i64 0, .int .i64 0, .slice a1 l1 c1, .slice none 0 0, .slice none 0 0, .int .i64 mu, .int .i64 h] 50)) := ((Below.refl _ _).alloc (Nat.le_refl _) _).alloc (by simp) _
  simp only [World.size_alloc] at hb9
  generalize (w.alloc (.cells #[.int .i64 2, .int .i64 d, .int .i64 s, .int .i64 o, .int .i64 c, .int .i64 i, .slice a1 l1 c1, .slice a2 l2 c2, .slice a3 l3 c3, .int .i64 mu, .int .i64 h] 50)).alloc (.cells #[.int .i64 0, .int .i64 0, .int .i64 0, .int .i64 o, .int .i64 0, .int .i64 0, .slice a1 l1 c1, .slice none 0 0, .slice none 0 0, .int .i64 mu, .int .i64 h] 50) = W at *
  have z0 := ext_cell hb9.c0 hb9.lt
  have z1 := ext_cell hb9.c1 hb9.lt
  have z2 := ext_cell hb9.c2 hb9.lt
  have z3 := ext_cell hb9.c3 hb9.lt
  have z4 := ext_cell hb9.c4 hb9.lt
  have z5 := ext_cell hb9.c5 hb9.lt
  have z6 := ext_cell hb9.c6 hb9.lt
  have z7 := ext_cell hb9.c7 hb9.lt
  have z8 := ext_cell hb9.c8 hb9.lt
  have z9 := ext_cell hb9.c9 hb9.lt
  have z10 := ext_cell hb9.c10 hb9.lt
  have y4 := ext_cell hb4'.c4 hb4'.lt
  have y5 := ext_cell hb4'.c5 hb4'.lt
  have y7 := ext_cell hb4'.c7 hb4'.lt
  have y8 := ext_cell hb4'.c8 hb4'.lt
  have HB := Lib.hid hB0
  clear hb4' hb9 hB0
  refine wp_region_quiet_ext (by kernel_rfl) (by kernel_rfl) ?_
  repeat (go_big_quiet_step (first | (go_at_call 65; exact Calls.ext_of (HKB.out _)) | (go_at_call 42; with_reducible exact Calls.ext_of_same (HWC.out _)) | (go_at_call 42; with_reducible exact Calls.ext_of_same (HWI.out _))))
  refine wpQuiet_nil ?_
  intro _ hw'
  obtain ⟨nq, hw''⟩ := hw'
  subst hw''
  have HE := Lib.hid (HB.out.trans ((ext_below W nq).mono HB.out.size))
  generalize ext W nq = w2 at *
  go_wp2
  go_ret
  exact ⟨rfl, HE.out⟩

set_option maxRecDepth 100000 in
set_option maxHeartbeats 3200000 in
theorem kFits2_1 (d s o c i mu h : Int) (a1 a2 a3 : Option Addr) (l1 l2 l3 c1 c2 c3 : Nat) (hl1 : l1 ≤ 9223372036854775807) (hl2 : l2 ≤ 9223372036854775807) (hl3 : l3 ≤ 9223372036854775807) (n m t : Int) (hn1 : 1 ≤ n) (hn2 : n ≤ 262144) (hb0 : o = 0 ∧ mu = 0 ∧ h = 0 ∧ l1 = 0) (hc0 : 1 ≤ c ∧ c ≤ 262144) (hi0 : 1 ≤ i ∧ i ≤ 262144) (ht1 : m ≠ i * c) (w : World) :
    Calls Try.prog 43 #[.agg #[.int .i64 2, .int .i64 d, .int .i64 s, .int .i64 o, .int .i64 c, .int .i64 i, .slice a1 l1 c1, .slice a2 l2 c2, .slice a3 l3 c3, .int .i64 mu, .int .i64 h], .int .i64 n, .int .i64 m, .int .i64 t] w
      fun e w' => e = .returned (.bool false) ∧ Below w.heap.size w w' := by
  have HKB : Hid (∀ wv, Calls Try.prog 65 #[.agg #[.int .i64 0, .int .i64 0, .int .i64 0, .int .i64 o, .int .i64 0, .int .i64 0, .slice a1 l1 c1, .slice none 0 0, .slice none 0 0, .int .i64 mu, .int .i64 h]] wv fun e w' => e = .returned (.bool true) ∧ Below wv.heap.size wv w') := by
    intro wv
    refine (kBare 0 0 0 o 0 0 mu h a1 none none l1 0 0 c1 0 0 hl1 (Nat.zero_le _) (Nat.zero_le _) wv).mono ?_
    rintro e w1 ⟨rfl, hb⟩
    exact ⟨ret_bool (by rw [decide_eq_true_eq]; omega), hb⟩
  have HWC : Hid (∀ wv, Calls Try.prog 42 #[.int .i64 c, .int .i64 1, .int .i64 262144] wv fun e w' => e = .returned (.bool true) ∧ wv = w') := by
    intro wv
    refine (kWithin c 1 262144 wv).mono ?_
    rintro e w1 ⟨rfl, rfl⟩
    exact ⟨ret_bool (by rw [wthn_iff]; omega), rfl⟩
  have HWI : Hid (∀ wv, Calls Try.prog 42 #[.int .i64 i, .int .i64 1, .int .i64 262144] wv fun e w' => e = .returned (.bool true) ∧ wv = w') := by
    intro wv
    refine (kWithin i 1 262144 wv).mono ?_
    rintro e w1 ⟨rfl, rfl⟩
    exact ⟨ret_bool (by rw [wthn_iff]; omega), rfl⟩
  obtain ⟨hc1, hc2⟩ := hc0
  obtain ⟨g1, g2, g3, g4, g5, g6⟩ := gemm_bd (l3 := l3) (i := i) hn1 hn2 hc1 hc2
  obtain ⟨p1, p2⟩ := mul_int_bd hi0.1 hi0.2 hc1 hc2
  have e1 : IntKind.i64.wrap (i * c) = i * c := IntWalk.i64_in _ (by omega)
  have e3 : IntKind.i64.wrap (n / c) = n / c := IntWalk.i64_in _ (by omega)
  have hcz : (c == 0) = false := by rw [beq_eq_false_iff_ne]; omega
  have hcz2 : ¬ c = 0 := by omega
  have t1 : (m == i * c) = false := by rw [beq_eq_false_iff_ne]; exact ht1
  clear hb0 hi0
  clear ht1
  go_enter Try.func43, Try.ntmps43
  go_wp2
  have hb4' := (Box11.alloc w (.int .i64 2) (.int .i64 d) (.int .i64 s) (.int .i64 o) (.int .i64 c) (.int .i64 i) (.slice a1 l1 c1) (.slice a2 l2 c2) (.slice a3 l3 c3) (.int .i64 mu) (.int .i64 h) 50).below ((Below.refl _ _).alloc (Nat.le_refl _) (.cells #[.int .i64 0, .int .i64 0, .int .i64 0, .int .i64 o, .int .i64 0, .int .i64 0, .slice a1 l1 c1, .slice none 0 0, .slice none 0 0, .int .i64 mu, .int .i64 h] 50))
  have hb9 := Box11.alloc (w.alloc (.cells #[.int .i64 2, .int .i64 d, .int .i64 s, .int .i64 o, .int .i64 c, .int .i64 i, .slice a1 l1 c1, .slice a2 l2 c2, .slice a3 l3 c3, .int .i64 mu, .int .i64 h] 50)) (.int .i64 0) (.int .i64 0) (.int .i64 0) (.int .i64 o) (.int .i64 0) (.int .i64 0) (.slice a1 l1 c1) (.slice none 0 0) (.slice none 0 0) (.int .i64 mu) (.int .i64 h) 50
  have hB0 : Below w.heap.size w ((w.alloc (.cells #[.int .i64 2, .int .i64 d, .int .i64 s, .int .i64 o, .int .i64 c, .int .i64 i, .slice a1 l1 c1, .slice a2 l2 c2, .slice a3 l3 c3, .int .i64 mu, .int .i64 h] 50)).alloc (.cells #[.int .i64 0, .int .i64 0, .int .i64 0, .int .i64 o, .int .i64 0, .int .i64 0, .slice a1 l1 c1, .slice none 0 0, .slice none 0 0, .int .i64 mu, .int .i64 h] 50)) := ((Below.refl _ _).alloc (Nat.le_refl _) _).alloc (by simp) _
  simp only [World.size_alloc] at hb9
  generalize (w.alloc (.cells #[.int .i64 2, .int .i64 d, .int .i64 s, .int .i64 o, .int .i64 c, .int .i64 i, .slice a1 l1 c1, .slice a2 l2 c2, .slice a3 l3 c3, .int .i64 mu, .int .i64 h] 50)).alloc (.cells #[.int .i64 0, .int .i64 0, .int .i64 0, .int .i64 o, .int .i64 0, .int .i64 0, .slice a1 l1 c1, .slice none 0 0, .slice none 0 0, .int .i64 mu, .int .i64 h] 50) = W at *
  have z0 := ext_cell hb9.c0 hb9.lt
  have z1 := ext_cell hb9.c1 hb9.lt
  have z2 := ext_cell hb9.c2 hb9.lt
  have z3 := ext_cell hb9.c3 hb9.lt
  have z4 := ext_cell hb9.c4 hb9.lt
  have z5 := ext_cell hb9.c5 hb9.lt
  have z6 := ext_cell hb9.c6 hb9.lt
  have z7 := ext_cell hb9.c7 hb9.lt
  have z8 := ext_cell hb9.c8 hb9.lt
  have z9 := ext_cell hb9.c9 hb9.lt
  have z10 := ext_cell hb9.c10 hb9.lt
  have y4 := ext_cell hb4'.c4 hb4'.lt
  have y5 := ext_cell hb4'.c5 hb4'.lt
  have y7 := ext_cell hb4'.c7 hb4'.lt
  have y8 := ext_cell hb4'.c8 hb4'.lt
  have HB := Lib.hid hB0
  clear hb4' hb9 hB0
  refine wp_region_quiet_ext (by kernel_rfl) (by kernel_rfl) ?_
  repeat (go_big_quiet_step (first | (go_at_call 65; exact Calls.ext_of (HKB.out _)) | (go_at_call 42; with_reducible exact Calls.ext_of_same (HWC.out _)) | (go_at_call 42; with_reducible exact Calls.ext_of_same (HWI.out _))))
  refine wpQuiet_nil ?_
  intro _ hw'
  obtain ⟨nq, hw''⟩ := hw'
  subst hw''
  have HE := Lib.hid (HB.out.trans ((ext_below W nq).mono HB.out.size))
  generalize ext W nq = w2 at *
  go_wp2
  go_ret
  exact ⟨rfl, HE.out⟩

set_option maxRecDepth 100000 in
set_option maxHeartbeats 3200000 in
theorem kFits2_2 (d s o c i mu h : Int) (a1 a2 a3 : Option Addr) (l1 l2 l3 c1 c2 c3 : Nat) (hl1 : l1 ≤ 9223372036854775807) (hl2 : l2 ≤ 9223372036854775807) (hl3 : l3 ≤ 9223372036854775807) (n m t : Int) (hn1 : 1 ≤ n) (hn2 : n ≤ 262144) (hb0 : o = 0 ∧ mu = 0 ∧ h = 0 ∧ l1 = 0) (hc0 : 1 ≤ c ∧ c ≤ 262144) (hi0 : 1 ≤ i ∧ i ≤ 262144) (ht1 : m = i * c) (ht2 : n % c ≠ 0) (w : World) :
    Calls Try.prog 43 #[.agg #[.int .i64 2, .int .i64 d, .int .i64 s, .int .i64 o, .int .i64 c, .int .i64 i, .slice a1 l1 c1, .slice a2 l2 c2, .slice a3 l3 c3, .int .i64 mu, .int .i64 h], .int .i64 n, .int .i64 m, .int .i64 t] w
      fun e w' => e = .returned (.bool false) ∧ Below w.heap.size w w' := by
  have HKB : Hid (∀ wv, Calls Try.prog 65 #[.agg #[.int .i64 0, .int .i64 0, .int .i64 0, .int .i64 o, .int .i64 0, .int .i64 0, .slice a1 l1 c1, .slice none 0 0, .slice none 0 0, .int .i64 mu, .int .i64 h]] wv fun e w' => e = .returned (.bool true) ∧ Below wv.heap.size wv w') := by
    intro wv
    refine (kBare 0 0 0 o 0 0 mu h a1 none none l1 0 0 c1 0 0 hl1 (Nat.zero_le _) (Nat.zero_le _) wv).mono ?_
    rintro e w1 ⟨rfl, hb⟩
    exact ⟨ret_bool (by rw [decide_eq_true_eq]; omega), hb⟩
  have HWC : Hid (∀ wv, Calls Try.prog 42 #[.int .i64 c, .int .i64 1, .int .i64 262144] wv fun e w' => e = .returned (.bool true) ∧ wv = w') := by
    intro wv
    refine (kWithin c 1 262144 wv).mono ?_
    rintro e w1 ⟨rfl, rfl⟩
    exact ⟨ret_bool (by rw [wthn_iff]; omega), rfl⟩
  have HWI : Hid (∀ wv, Calls Try.prog 42 #[.int .i64 i, .int .i64 1, .int .i64 262144] wv fun e w' => e = .returned (.bool true) ∧ wv = w') := by
    intro wv
    refine (kWithin i 1 262144 wv).mono ?_
    rintro e w1 ⟨rfl, rfl⟩
    exact ⟨ret_bool (by rw [wthn_iff]; omega), rfl⟩
  obtain ⟨hc1, hc2⟩ := hc0
  obtain ⟨g1, g2, g3, g4, g5, g6⟩ := gemm_bd (l3 := l3) (i := i) hn1 hn2 hc1 hc2
  obtain ⟨p1, p2⟩ := mul_int_bd hi0.1 hi0.2 hc1 hc2
  have e1 : IntKind.i64.wrap (i * c) = i * c := IntWalk.i64_in _ (by omega)
  have e3 : IntKind.i64.wrap (n / c) = n / c := IntWalk.i64_in _ (by omega)
  have hcz : (c == 0) = false := by rw [beq_eq_false_iff_ne]; omega
  have hcz2 : ¬ c = 0 := by omega
  have t1 : (m == i * c) = true := by rw [beq_iff_eq]; exact ht1
  have t2 : (n % c == 0) = false := by rw [beq_eq_false_iff_ne]; exact ht2
  clear hb0 hi0
  clear ht1 ht2
  go_enter Try.func43, Try.ntmps43
  go_wp2
  have hb4' := (Box11.alloc w (.int .i64 2) (.int .i64 d) (.int .i64 s) (.int .i64 o) (.int .i64 c) (.int .i64 i) (.slice a1 l1 c1) (.slice a2 l2 c2) (.slice a3 l3 c3) (.int .i64 mu) (.int .i64 h) 50).below ((Below.refl _ _).alloc (Nat.le_refl _) (.cells #[.int .i64 0, .int .i64 0, .int .i64 0, .int .i64 o, .int .i64 0, .int .i64 0, .slice a1 l1 c1, .slice none 0 0, .slice none 0 0, .int .i64 mu, .int .i64 h] 50))
  have hb9 := Box11.alloc (w.alloc (.cells #[.int .i64 2, .int .i64 d, .int .i64 s, .int .i64 o, .int .i64 c, .int .i64 i, .slice a1 l1 c1, .slice a2 l2 c2, .slice a3 l3 c3, .int .i64 mu, .int .i64 h] 50)) (.int .i64 0) (.int .i64 0) (.int .i64 0) (.int .i64 o) (.int .i64 0) (.int .i64 0) (.slice a1 l1 c1) (.slice none 0 0) (.slice none 0 0) (.int .i64 mu) (.int .i64 h) 50
  have hB0 : Below w.heap.size w ((w.alloc (.cells #[.int .i64 2, .int .i64 d, .int .i64 s, .int .i64 o, .int .i64 c, .int .i64 i, .slice a1 l1 c1, .slice a2 l2 c2, .slice a3 l3 c3, .int .i64 mu, .int .i64 h] 50)).alloc (.cells #[.int .i64 0, .int .i64 0, .int .i64 0, .int .i64 o, .int .i64 0, .int .i64 0, .slice a1 l1 c1, .slice none 0 0, .slice none 0 0, .int .i64 mu, .int .i64 h] 50)) := ((Below.refl _ _).alloc (Nat.le_refl _) _).alloc (by simp) _
  simp only [World.size_alloc] at hb9
  generalize (w.alloc (.cells #[.int .i64 2, .int .i64 d, .int .i64 s, .int .i64 o, .int .i64 c, .int .i64 i, .slice a1 l1 c1, .slice a2 l2 c2, .slice a3 l3 c3, .int .i64 mu, .int .i64 h] 50)).alloc (.cells #[.int .i64 0, .int .i64 0, .int .i64 0, .int .i64 o, .int .i64 0, .int .i64 0, .slice a1 l1 c1, .slice none 0 0, .slice none 0 0, .int .i64 mu, .int .i64 h] 50) = W at *
  have z0 := ext_cell hb9.c0 hb9.lt
  have z1 := ext_cell hb9.c1 hb9.lt
  have z2 := ext_cell hb9.c2 hb9.lt
  have z3 := ext_cell hb9.c3 hb9.lt
  have z4 := ext_cell hb9.c4 hb9.lt
  have z5 := ext_cell hb9.c5 hb9.lt
  have z6 := ext_cell hb9.c6 hb9.lt
  have z7 := ext_cell hb9.c7 hb9.lt
  have z8 := ext_cell hb9.c8 hb9.lt
  have z9 := ext_cell hb9.c9 hb9.lt
  have z10 := ext_cell hb9.c10 hb9.lt
  have y4 := ext_cell hb4'.c4 hb4'.lt
  have y5 := ext_cell hb4'.c5 hb4'.lt
  have y7 := ext_cell hb4'.c7 hb4'.lt
  have y8 := ext_cell hb4'.c8 hb4'.lt
  have HB := Lib.hid hB0
  clear hb4' hb9 hB0
  refine wp_region_quiet_ext (by kernel_rfl) (by kernel_rfl) ?_
  repeat (go_big_quiet_step (first | (go_at_call 65; exact Calls.ext_of (HKB.out _)) | (go_at_call 42; with_reducible exact Calls.ext_of_same (HWC.out _)) | (go_at_call 42; with_reducible exact Calls.ext_of_same (HWI.out _))))
  refine wpQuiet_nil ?_
  intro _ hw'
  obtain ⟨nq, hw''⟩ := hw'
  subst hw''
  have HE := Lib.hid (HB.out.trans ((ext_below W nq).mono HB.out.size))
  generalize ext W nq = w2 at *
  go_wp2
  go_ret
  exact ⟨rfl, HE.out⟩

set_option maxRecDepth 100000 in
set_option maxHeartbeats 3200000 in
theorem kFits2_3 (d s o c i mu h : Int) (a1 a2 a3 : Option Addr) (l1 l2 l3 c1 c2 c3 : Nat) (hl1 : l1 ≤ 9223372036854775807) (hl2 : l2 ≤ 9223372036854775807) (hl3 : l3 ≤ 9223372036854775807) (n m t : Int) (hn1 : 1 ≤ n) (hn2 : n ≤ 262144) (hb0 : o = 0 ∧ mu = 0 ∧ h = 0 ∧ l1 = 0) (hc0 : 1 ≤ c ∧ c ≤ 262144) (hi0 : 1 ≤ i ∧ i ≤ 262144) (ht1 : m = i * c) (ht2 : n % c = 0) (ht3 : (l3 : Int) ≠ n / c) (w : World) :
    Calls Try.prog 43 #[.agg #[.int .i64 2, .int .i64 d, .int .i64 s, .int .i64 o, .int .i64 c, .int .i64 i, .slice a1 l1 c1, .slice a2 l2 c2, .slice a3 l3 c3, .int .i64 mu, .int .i64 h], .int .i64 n, .int .i64 m, .int .i64 t] w
      fun e w' => e = .returned (.bool false) ∧ Below w.heap.size w w' := by
  have HKB : Hid (∀ wv, Calls Try.prog 65 #[.agg #[.int .i64 0, .int .i64 0, .int .i64 0, .int .i64 o, .int .i64 0, .int .i64 0, .slice a1 l1 c1, .slice none 0 0, .slice none 0 0, .int .i64 mu, .int .i64 h]] wv fun e w' => e = .returned (.bool true) ∧ Below wv.heap.size wv w') := by
    intro wv
    refine (kBare 0 0 0 o 0 0 mu h a1 none none l1 0 0 c1 0 0 hl1 (Nat.zero_le _) (Nat.zero_le _) wv).mono ?_
    rintro e w1 ⟨rfl, hb⟩
    exact ⟨ret_bool (by rw [decide_eq_true_eq]; omega), hb⟩
  have HWC : Hid (∀ wv, Calls Try.prog 42 #[.int .i64 c, .int .i64 1, .int .i64 262144] wv fun e w' => e = .returned (.bool true) ∧ wv = w') := by
    intro wv
    refine (kWithin c 1 262144 wv).mono ?_
    rintro e w1 ⟨rfl, rfl⟩
    exact ⟨ret_bool (by rw [wthn_iff]; omega), rfl⟩
  have HWI : Hid (∀ wv, Calls Try.prog 42 #[.int .i64 i, .int .i64 1, .int .i64 262144] wv fun e w' => e = .returned (.bool true) ∧ wv = w') := by
    intro wv
    refine (kWithin i 1 262144 wv).mono ?_
    rintro e w1 ⟨rfl, rfl⟩
    exact ⟨ret_bool (by rw [wthn_iff]; omega), rfl⟩
  obtain ⟨hc1, hc2⟩ := hc0
  obtain ⟨g1, g2, g3, g4, g5, g6⟩ := gemm_bd (l3 := l3) (i := i) hn1 hn2 hc1 hc2
  obtain ⟨p1, p2⟩ := mul_int_bd hi0.1 hi0.2 hc1 hc2
  have e1 : IntKind.i64.wrap (i * c) = i * c := IntWalk.i64_in _ (by omega)
  have e3 : IntKind.i64.wrap (n / c) = n / c := IntWalk.i64_in _ (by omega)
  have hcz : (c == 0) = false := by rw [beq_eq_false_iff_ne]; omega
  have hcz2 : ¬ c = 0 := by omega
  have t1 : (m == i * c) = true := by rw [beq_iff_eq]; exact ht1
  have t2 : (n % c == 0) = true := by rw [beq_iff_eq]; exact ht2
  have t3 : ((l3 : Int) == n / c) = false := by rw [beq_eq_false_iff_ne]; exact ht3
  clear hb0 hi0
  clear ht1 ht2 ht3
  go_enter Try.func43, Try.ntmps43
  go_wp2
  have hb4' := (Box11.alloc w (.int .i64 2) (.int .i64 d) (.int .i64 s) (.int .i64 o) (.int .i64 c) (.int .i64 i) (.slice a1 l1 c1) (.slice a2 l2 c2) (.slice a3 l3 c3) (.int .i64 mu) (.int .i64 h) 50).below ((Below.refl _ _).alloc (Nat.le_refl _) (.cells #[.int .i64 0, .int .i64 0, .int .i64 0, .int .i64 o, .int .i64 0, .int .i64 0, .slice a1 l1 c1, .slice none 0 0, .slice none 0 0, .int .i64 mu, .int .i64 h] 50))
  have hb9 := Box11.alloc (w.alloc (.cells #[.int .i64 2, .int .i64 d, .int .i64 s, .int .i64 o, .int .i64 c, .int .i64 i, .slice a1 l1 c1, .slice a2 l2 c2, .slice a3 l3 c3, .int .i64 mu, .int .i64 h] 50)) (.int .i64 0) (.int .i64 0) (.int .i64 0) (.int .i64 o) (.int .i64 0) (.int .i64 0) (.slice a1 l1 c1) (.slice none 0 0) (.slice none 0 0) (.int .i64 mu) (.int .i64 h) 50
  have hB0 : Below w.heap.size w ((w.alloc (.cells #[.int .i64 2, .int .i64 d, .int .i64 s, .int .i64 o, .int .i64 c, .int .i64 i, .slice a1 l1 c1, .slice a2 l2 c2, .slice a3 l3 c3, .int .i64 mu, .int .i64 h] 50)).alloc (.cells #[.int .i64 0, .int .i64 0, .int .i64 0, .int .i64 o, .int .i64 0, .int .i64 0, .slice a1 l1 c1, .slice none 0 0, .slice none 0 0, .int .i64 mu, .int .i64 h] 50)) := ((Below.refl _ _).alloc (Nat.le_refl _) _).alloc (by simp) _
  simp only [World.size_alloc] at hb9
  generalize (w.alloc (.cells #[.int .i64 2, .int .i64 d, .int .i64 s, .int .i64 o, .int .i64 c, .int .i64 i, .slice a1 l1 c1, .slice a2 l2 c2, .slice a3 l3 c3, .int .i64 mu, .int .i64 h] 50)).alloc (.cells #[.int .i64 0, .int .i64 0, .int .i64 0, .int .i64 o, .int .i64 0, .int .i64 0, .slice a1 l1 c1, .slice none 0 0, .slice none 0 0, .int .i64 mu, .int .i64 h] 50) = W at *
  have z0 := ext_cell hb9.c0 hb9.lt
  have z1 := ext_cell hb9.c1 hb9.lt
  have z2 := ext_cell hb9.c2 hb9.lt
  have z3 := ext_cell hb9.c3 hb9.lt
  have z4 := ext_cell hb9.c4 hb9.lt
  have z5 := ext_cell hb9.c5 hb9.lt
  have z6 := ext_cell hb9.c6 hb9.lt
  have z7 := ext_cell hb9.c7 hb9.lt
  have z8 := ext_cell hb9.c8 hb9.lt
  have z9 := ext_cell hb9.c9 hb9.lt
  have z10 := ext_cell hb9.c10 hb9.lt
  have y4 := ext_cell hb4'.c4 hb4'.lt
  have y5 := ext_cell hb4'.c5 hb4'.lt
  have y7 := ext_cell hb4'.c7 hb4'.lt
  have y8 := ext_cell hb4'.c8 hb4'.lt
  have HB := Lib.hid hB0
  clear hb4' hb9 hB0
  refine wp_region_quiet_ext (by kernel_rfl) (by kernel_rfl) ?_
  repeat (go_big_quiet_step (first | (go_at_call 65; exact Calls.ext_of (HKB.out _)) | (go_at_call 42; with_reducible exact Calls.ext_of_same (HWC.out _)) | (go_at_call 42; with_reducible exact Calls.ext_of_same (HWI.out _))))
  refine wpQuiet_nil ?_
  intro _ hw'
  obtain ⟨nq, hw''⟩ := hw'
  subst hw''
  have HE := Lib.hid (HB.out.trans ((ext_below W nq).mono HB.out.size))
  generalize ext W nq = w2 at *
  go_wp2
  go_ret
  exact ⟨rfl, HE.out⟩

set_option maxRecDepth 100000 in
set_option maxHeartbeats 3200000 in
theorem kFits2_4 (d s o c i mu h : Int) (a1 a2 a3 : Option Addr) (l1 l2 l3 c1 c2 c3 : Nat) (hl1 : l1 ≤ 9223372036854775807) (hl2 : l2 ≤ 9223372036854775807) (hl3 : l3 ≤ 9223372036854775807) (n m t : Int) (hn1 : 1 ≤ n) (hn2 : n ≤ 262144) (hb0 : o = 0 ∧ mu = 0 ∧ h = 0 ∧ l1 = 0) (hc0 : 1 ≤ c ∧ c ≤ 262144) (hi0 : 1 ≤ i ∧ i ≤ 262144) (ht1 : m = i * c) (ht2 : n % c = 0) (ht3 : (l3 : Int) = n / c) (ht4 : (l2 : Int) ≠ l3 * i) (w : World) :
    Calls Try.prog 43 #[.agg #[.int .i64 2, .int .i64 d, .int .i64 s, .int .i64 o, .int .i64 c, .int .i64 i, .slice a1 l1 c1, .slice a2 l2 c2, .slice a3 l3 c3, .int .i64 mu, .int .i64 h], .int .i64 n, .int .i64 m, .int .i64 t] w
      fun e w' => e = .returned (.bool false) ∧ Below w.heap.size w w' := by
  have HKB : Hid (∀ wv, Calls Try.prog 65 #[.agg #[.int .i64 0, .int .i64 0, .int .i64 0, .int .i64 o, .int .i64 0, .int .i64 0, .slice a1 l1 c1, .slice none 0 0, .slice none 0 0, .int .i64 mu, .int .i64 h]] wv fun e w' => e = .returned (.bool true) ∧ Below wv.heap.size wv w') := by
    intro wv
    refine (kBare 0 0 0 o 0 0 mu h a1 none none l1 0 0 c1 0 0 hl1 (Nat.zero_le _) (Nat.zero_le _) wv).mono ?_
    rintro e w1 ⟨rfl, hb⟩
    exact ⟨ret_bool (by rw [decide_eq_true_eq]; omega), hb⟩
  have HWC : Hid (∀ wv, Calls Try.prog 42 #[.int .i64 c, .int .i64 1, .int .i64 262144] wv fun e w' => e = .returned (.bool true) ∧ wv = w') := by
    intro wv
    refine (kWithin c 1 262144 wv).mono ?_
    rintro e w1 ⟨rfl, rfl⟩
    exact ⟨ret_bool (by rw [wthn_iff]; omega), rfl⟩
  have HWI : Hid (∀ wv, Calls Try.prog 42 #[.int .i64 i, .int .i64 1, .int .i64 262144] wv fun e w' => e = .returned (.bool true) ∧ wv = w') := by
    intro wv
    refine (kWithin i 1 262144 wv).mono ?_
    rintro e w1 ⟨rfl, rfl⟩
    exact ⟨ret_bool (by rw [wthn_iff]; omega), rfl⟩
  obtain ⟨hc1, hc2⟩ := hc0
  obtain ⟨g1, g2, g3, g4, g5, g6⟩ := gemm_bd (l3 := l3) (i := i) hn1 hn2 hc1 hc2
  obtain ⟨p1, p2⟩ := mul_int_bd hi0.1 hi0.2 hc1 hc2
  have e1 : IntKind.i64.wrap (i * c) = i * c := IntWalk.i64_in _ (by omega)
  have e3 : IntKind.i64.wrap (n / c) = n / c := IntWalk.i64_in _ (by omega)
  have hcz : (c == 0) = false := by rw [beq_eq_false_iff_ne]; omega
  have hcz2 : ¬ c = 0 := by omega
  have e4 : IntKind.i64.wrap ((l3 : Int) * i) = l3 * i := IntWalk.i64_in _ (by rw [ht3]; exact ⟨by have := Int.mul_nonneg g3 (show 0 ≤ i by omega); omega, by have := Int.mul_le_mul g4 hi0.2 (by omega) (by omega); omega⟩)
  have t1 : (m == i * c) = true := by rw [beq_iff_eq]; exact ht1
  have t2 : (n % c == 0) = true := by rw [beq_iff_eq]; exact ht2
  have t3 : ((l3 : Int) == n / c) = true := by rw [beq_iff_eq]; exact ht3
  have t4 : ((l2 : Int) == l3 * i) = false := by rw [beq_eq_false_iff_ne]; exact ht4
  clear hb0 hi0
  clear ht1 ht2 ht3 ht4
  go_enter Try.func43, Try.ntmps43
  go_wp2
  have hb4' := (Box11.alloc w (.int .i64 2) (.int .i64 d) (.int .i64 s) (.int .i64 o) (.int .i64 c) (.int .i64 i) (.slice a1 l1 c1) (.slice a2 l2 c2) (.slice a3 l3 c3) (.int .i64 mu) (.int .i64 h) 50).below ((Below.refl _ _).alloc (Nat.le_refl _) (.cells #[.int .i64 0, .int .i64 0, .int .i64 0, .int .i64 o, .int .i64 0, .int .i64 0, .slice a1 l1 c1, .slice none 0 0, .slice none 0 0, .int .i64 mu, .int .i64 h] 50))
  have hb9 := Box11.alloc (w.alloc (.cells #[.int .i64 2, .int .i64 d, .int .i64 s, .int .i64 o, .int .i64 c, .int .i64 i, .slice a1 l1 c1, .slice a2 l2 c2, .slice a3 l3 c3, .int .i64 mu, .int .i64 h] 50)) (.int .i64 0) (.int .i64 0) (.int .i64 0) (.int .i64 o) (.int .i64 0) (.int .i64 0) (.slice a1 l1 c1) (.slice none 0 0) (.slice none 0 0) (.int .i64 mu) (.int .i64 h) 50
  have hB0 : Below w.heap.size w ((w.alloc (.cells #[.int .i64 2, .int .i64 d, .int .i64 s, .int .i64 o, .int .i64 c, .int .i64 i, .slice a1 l1 c1, .slice a2 l2 c2, .slice a3 l3 c3, .int .i64 mu, .int .i64 h] 50)).alloc (.cells #[.int .i64 0, .int .i64 0, .int .i64 0, .int .i64 o, .int .i64 0, .int .i64 0, .slice a1 l1 c1, .slice none 0 0, .slice none 0 0, .int .i64 mu, .int .i64 h] 50)) := ((Below.refl _ _).alloc (Nat.le_refl _) _).alloc (by simp) _
  simp only [World.size_alloc] at hb9
  generalize (w.alloc (.cells #[.int .i64 2, .int .i64 d, .int .i64 s, .int .i64 o, .int .i64 c, .int .i64 i, .slice a1 l1 c1, .slice a2 l2 c2, .slice a3 l3 c3, .int .i64 mu, .int .i64 h] 50)).alloc (.cells #[.int .i64 0, .int .i64 0, .int .i64 0, .int .i64 o, .int .i64 0, .int .i64 0, .slice a1 l1 c1, .slice none 0 0, .slice none 0 0, .int .i64 mu, .int .i64 h] 50) = W at *
  have z0 := ext_cell hb9.c0 hb9.lt
  have z1 := ext_cell hb9.c1 hb9.lt
  have z2 := ext_cell hb9.c2 hb9.lt
  have z3 := ext_cell hb9.c3 hb9.lt
  have z4 := ext_cell hb9.c4 hb9.lt
  have z5 := ext_cell hb9.c5 hb9.lt
  have z6 := ext_cell hb9.c6 hb9.lt
  have z7 := ext_cell hb9.c7 hb9.lt
  have z8 := ext_cell hb9.c8 hb9.lt
  have z9 := ext_cell hb9.c9 hb9.lt
  have z10 := ext_cell hb9.c10 hb9.lt
  have y4 := ext_cell hb4'.c4 hb4'.lt
  have y5 := ext_cell hb4'.c5 hb4'.lt
  have y7 := ext_cell hb4'.c7 hb4'.lt
  have y8 := ext_cell hb4'.c8 hb4'.lt
  have HB := Lib.hid hB0
  clear hb4' hb9 hB0
  refine wp_region_quiet_ext (by kernel_rfl) (by kernel_rfl) ?_
  repeat (go_big_quiet_step (first | (go_at_call 65; exact Calls.ext_of (HKB.out _)) | (go_at_call 42; with_reducible exact Calls.ext_of_same (HWC.out _)) | (go_at_call 42; with_reducible exact Calls.ext_of_same (HWI.out _))))
  refine wpQuiet_nil ?_
  intro _ hw'
  obtain ⟨nq, hw''⟩ := hw'
  subst hw''
  have HE := Lib.hid (HB.out.trans ((ext_below W nq).mono HB.out.size))
  generalize ext W nq = w2 at *
  go_wp2
  go_ret
  exact ⟨rfl, HE.out⟩

set_option maxRecDepth 100000 in
set_option maxHeartbeats 3200000 in
theorem kFits2_5 (d s o c i mu h : Int) (a1 a2 a3 : Option Addr) (l1 l2 l3 c1 c2 c3 : Nat) (hl1 : l1 ≤ 9223372036854775807) (hl2 : l2 ≤ 9223372036854775807) (hl3 : l3 ≤ 9223372036854775807) (n m t : Int) (hn1 : 1 ≤ n) (hn2 : n ≤ 262144) (hb0 : o = 0 ∧ mu = 0 ∧ h = 0 ∧ l1 = 0) (hc0 : 1 ≤ c ∧ c ≤ 262144) (hi0 : 1 ≤ i ∧ i ≤ 262144) (ht1 : m = i * c) (ht2 : n % c = 0) (ht3 : (l3 : Int) = n / c) (ht4 : (l2 : Int) = l3 * i) (w : World) :
    Calls Try.prog 43 #[.agg #[.int .i64 2, .int .i64 d, .int .i64 s, .int .i64 o, .int .i64 c, .int .i64 i, .slice a1 l1 c1, .slice a2 l2 c2, .slice a3 l3 c3, .int .i64 mu, .int .i64 h], .int .i64 n, .int .i64 m, .int .i64 t] w
      fun e w' => e = .returned (.bool true) ∧ Below w.heap.size w w' := by
  have HKB : Hid (∀ wv, Calls Try.prog 65 #[.agg #[.int .i64 0, .int .i64 0, .int .i64 0, .int .i64 o, .int .i64 0, .int .i64 0, .slice a1 l1 c1, .slice none 0 0, .slice none 0 0, .int .i64 mu, .int .i64 h]] wv fun e w' => e = .returned (.bool true) ∧ Below wv.heap.size wv w') := by
    intro wv
    refine (kBare 0 0 0 o 0 0 mu h a1 none none l1 0 0 c1 0 0 hl1 (Nat.zero_le _) (Nat.zero_le _) wv).mono ?_
    rintro e w1 ⟨rfl, hb⟩
    exact ⟨ret_bool (by rw [decide_eq_true_eq]; omega), hb⟩
  have HWC : Hid (∀ wv, Calls Try.prog 42 #[.int .i64 c, .int .i64 1, .int .i64 262144] wv fun e w' => e = .returned (.bool true) ∧ wv = w') := by
    intro wv
    refine (kWithin c 1 262144 wv).mono ?_
    rintro e w1 ⟨rfl, rfl⟩
    exact ⟨ret_bool (by rw [wthn_iff]; omega), rfl⟩
  have HWI : Hid (∀ wv, Calls Try.prog 42 #[.int .i64 i, .int .i64 1, .int .i64 262144] wv fun e w' => e = .returned (.bool true) ∧ wv = w') := by
    intro wv
    refine (kWithin i 1 262144 wv).mono ?_
    rintro e w1 ⟨rfl, rfl⟩
    exact ⟨ret_bool (by rw [wthn_iff]; omega), rfl⟩
  obtain ⟨hc1, hc2⟩ := hc0
  obtain ⟨g1, g2, g3, g4, g5, g6⟩ := gemm_bd (l3 := l3) (i := i) hn1 hn2 hc1 hc2
  obtain ⟨p1, p2⟩ := mul_int_bd hi0.1 hi0.2 hc1 hc2
  have e1 : IntKind.i64.wrap (i * c) = i * c := IntWalk.i64_in _ (by omega)
  have e3 : IntKind.i64.wrap (n / c) = n / c := IntWalk.i64_in _ (by omega)
  have hcz : (c == 0) = false := by rw [beq_eq_false_iff_ne]; omega
  have hcz2 : ¬ c = 0 := by omega
  have e4 : IntKind.i64.wrap ((l3 : Int) * i) = l3 * i := IntWalk.i64_in _ (by rw [ht3]; exact ⟨by have := Int.mul_nonneg g3 (show 0 ≤ i by omega); omega, by have := Int.mul_le_mul g4 hi0.2 (by omega) (by omega); omega⟩)
  have t1 : (m == i * c) = true := by rw [beq_iff_eq]; exact ht1
  have t2 : (n % c == 0) = true := by rw [beq_iff_eq]; exact ht2
  have t3 : ((l3 : Int) == n / c) = true := by rw [beq_iff_eq]; exact ht3
  have t4 : ((l2 : Int) == l3 * i) = true := by rw [beq_iff_eq]; exact ht4
  clear hb0 hi0
  clear ht1 ht2 ht3 ht4
  go_enter Try.func43, Try.ntmps43
  go_wp2
  have hb4' := (Box11.alloc w (.int .i64 2) (.int .i64 d) (.int .i64 s) (.int .i64 o) (.int .i64 c) (.int .i64 i) (.slice a1 l1 c1) (.slice a2 l2 c2) (.slice a3 l3 c3) (.int .i64 mu) (.int .i64 h) 50).below ((Below.refl _ _).alloc (Nat.le_refl _) (.cells #[.int .i64 0, .int .i64 0, .int .i64 0, .int .i64 o, .int .i64 0, .int .i64 0, .slice a1 l1 c1, .slice none 0 0, .slice none 0 0, .int .i64 mu, .int .i64 h] 50))
  have hb9 := Box11.alloc (w.alloc (.cells #[.int .i64 2, .int .i64 d, .int .i64 s, .int .i64 o, .int .i64 c, .int .i64 i, .slice a1 l1 c1, .slice a2 l2 c2, .slice a3 l3 c3, .int .i64 mu, .int .i64 h] 50)) (.int .i64 0) (.int .i64 0) (.int .i64 0) (.int .i64 o) (.int .i64 0) (.int .i64 0) (.slice a1 l1 c1) (.slice none 0 0) (.slice none 0 0) (.int .i64 mu) (.int .i64 h) 50
  have hB0 : Below w.heap.size w ((w.alloc (.cells #[.int .i64 2, .int .i64 d, .int .i64 s, .int .i64 o, .int .i64 c, .int .i64 i, .slice a1 l1 c1, .slice a2 l2 c2, .slice a3 l3 c3, .int .i64 mu, .int .i64 h] 50)).alloc (.cells #[.int .i64 0, .int .i64 0, .int .i64 0, .int .i64 o, .int .i64 0, .int .i64 0, .slice a1 l1 c1, .slice none 0 0, .slice none 0 0, .int .i64 mu, .int .i64 h] 50)) := ((Below.refl _ _).alloc (Nat.le_refl _) _).alloc (by simp) _
  simp only [World.size_alloc] at hb9
  generalize (w.alloc (.cells #[.int .i64 2, .int .i64 d, .int .i64 s, .int .i64 o, .int .i64 c, .int .i64 i, .slice a1 l1 c1, .slice a2 l2 c2, .slice a3 l3 c3, .int .i64 mu, .int .i64 h] 50)).alloc (.cells #[.int .i64 0, .int .i64 0, .int .i64 0, .int .i64 o, .int .i64 0, .int .i64 0, .slice a1 l1 c1, .slice none 0 0, .slice none 0 0, .int .i64 mu, .int .i64 h] 50) = W at *
  have z0 := ext_cell hb9.c0 hb9.lt
  have z1 := ext_cell hb9.c1 hb9.lt
  have z2 := ext_cell hb9.c2 hb9.lt
  have z3 := ext_cell hb9.c3 hb9.lt
  have z4 := ext_cell hb9.c4 hb9.lt
  have z5 := ext_cell hb9.c5 hb9.lt
  have z6 := ext_cell hb9.c6 hb9.lt
  have z7 := ext_cell hb9.c7 hb9.lt
  have z8 := ext_cell hb9.c8 hb9.lt
  have z9 := ext_cell hb9.c9 hb9.lt
  have z10 := ext_cell hb9.c10 hb9.lt
  have y4 := ext_cell hb4'.c4 hb4'.lt
  have y5 := ext_cell hb4'.c5 hb4'.lt
  have y7 := ext_cell hb4'.c7 hb4'.lt
  have y8 := ext_cell hb4'.c8 hb4'.lt
  have HB := Lib.hid hB0
  clear hb4' hb9 hB0
  refine wp_region_quiet_ext (by kernel_rfl) (by kernel_rfl) ?_
  repeat (go_big_quiet_step (first | (go_at_call 65; exact Calls.ext_of (HKB.out _)) | (go_at_call 42; with_reducible exact Calls.ext_of_same (HWC.out _)) | (go_at_call 42; with_reducible exact Calls.ext_of_same (HWI.out _))))
  refine wpQuiet_nil ?_
  intro _ hw'
  obtain ⟨nq, hw''⟩ := hw'
  subst hw''
  have HE := Lib.hid (HB.out.trans ((ext_below W nq).mono HB.out.size))
  generalize ext W nq = w2 at *
  go_wp2
  go_ret
  exact ⟨rfl, HE.out⟩

end Go.Proofs.Ythlmgejikbmmaaa

/-
  kernel.fits at any operation: by contract.
-/
namespace Go.Proofs.Ythlmgejikbmmaaa
open Go.RowKit

/-- What fits says. -/
def fitsL (o : OpL) (n m t : Int) : Bool :=
  if o.kind = 1 then decide (o.other = 0 ∧ o.cols = 0 ∧ o.inner = 0 ∧ o.mul = 0 ∧ o.shift = 0 ∧ o.weights.length = 0 ∧ o.bias.length = 0 ∧ (o.index.length : Int) = n) && o.index.all (fun x => wthn x (-1) (m - 1))
  else if o.kind = 2 then decide (o.other = 0 ∧ o.mul = 0 ∧ o.shift = 0 ∧ o.index.length = 0 ∧ 1 ≤ o.cols ∧ o.cols ≤ 262144 ∧ 1 ≤ o.inner ∧ o.inner ≤ 262144 ∧ m = o.inner * o.cols ∧ n % o.cols = 0 ∧ (o.bias.length : Int) = n / o.cols ∧ (o.weights.length : Int) = o.bias.length * o.inner)
  else if o.kind = 3 then decide (o.other = 0 ∧ o.cols = 0 ∧ o.inner = 0 ∧ o.mul = 0 ∧ o.shift = 0 ∧ o.index.length = 0 ∧ o.weights.length = 0 ∧ o.bias.length = 0 ∧ m = n)
  else if o.kind = 4 ∨ o.kind = 5 then decide (o.other = 0 ∧ o.cols = 0 ∧ o.mul = 0 ∧ o.shift = 0 ∧ o.index.length = 0 ∧ o.weights.length = 0 ∧ o.bias.length = 0 ∧ 1 ≤ o.inner ∧ o.inner ≤ 262144 ∧ m = n * o.inner)
  else if o.kind = 6 then decide (o.cols = 0 ∧ o.inner = 0 ∧ o.mul = 0 ∧ o.shift = 0 ∧ o.index.length = 0 ∧ o.weights.length = 0 ∧ o.bias.length = 0 ∧ m = n ∧ t = n)
  else if o.kind = 7 then decide (o.other = 0 ∧ o.cols = 0 ∧ o.inner = 0 ∧ o.index.length = 0 ∧ o.weights.length = 0 ∧ o.bias.length = 0 ∧ m = n ∧ 0 ≤ o.shift ∧ o.shift ≤ 62)
  else false

/-- An operation as a value. -/
structure OpV (w : World) (v : Value) (o : OpL) : Prop where
  ex : ∃ (a1 a2 a3 : Option Addr) (c1 c2 c3 : Nat), v = .agg #[.int .i64 o.kind, .int .i64 o.dst, .int .i64 o.src, .int .i64 o.other, .int .i64 o.cols, .int .i64 o.inner, .slice a1 o.index.length c1, .slice a2 o.weights.length c2, .slice a3 o.bias.length c3, .int .i64 o.mul, .int .i64 o.shift] ∧
    Ints w Any a1 o.index ∧ Ints w Any a2 o.weights ∧ Ints w Any a3 o.bias ∧ o.index.length ≤ c1 ∧ o.weights.length ≤ c2 ∧ o.bias.length ≤ c3
theorem OpV.below {w w' : World} {v : Value} {o : OpL} (h : OpV w v o) (hb : Below w.heap.size w w') : OpV w' v o := by
  obtain ⟨a1, a2, a3, c1, c2, c3, e, h1, h2, h3, h4⟩ := h.ex
  exact ⟨a1, a2, a3, c1, c2, c3, e, h1.below hb, h2.below hb, h3.below hb, h4⟩

set_option maxRecDepth 100000 in
set_option maxHeartbeats 3200000 in
theorem kFits0 (k d s o c i mu h : Int) (hk : k < 1 ∨ 7 < k) (a1 a2 a3 : Option Addr) (l1 l2 l3 c1 c2 c3 : Nat) (n m t : Int) (w : World) :
    Calls Try.prog 43 #[.agg #[.int .i64 k, .int .i64 d, .int .i64 s, .int .i64 o, .int .i64 c, .int .i64 i, .slice a1 l1 c1, .slice a2 l2 c2, .slice a3 l3 c3, .int .i64 mu, .int .i64 h], .int .i64 n, .int .i64 m, .int .i64 t] w
      fun e w' => e = .returned (.bool false) ∧ Below w.heap.size w w' := by
  have k1 : (k == 1) = false := by rw [beq_eq_false_iff_ne]; omega
  have k2 : (k == 2) = false := by rw [beq_eq_false_iff_ne]; omega
  have k3 : (k == 3) = false := by rw [beq_eq_false_iff_ne]; omega
  have k4 : (k == 4) = false := by rw [beq_eq_false_iff_ne]; omega
  have k5 : (k == 5) = false := by rw [beq_eq_false_iff_ne]; omega
  have k6 : (k == 6) = false := by rw [beq_eq_false_iff_ne]; omega
  have k7 : (k == 7) = false := by rw [beq_eq_false_iff_ne]; omega
  clear hk
  go_enter Try.func43, Try.ntmps43
  go_wp2
  go_ret
  exact ⟨rfl, ((Below.refl _ _).alloc (Nat.le_refl _) _).alloc (by simp) _⟩

theorem kFits {w : World} {v : Value} {o : OpL} (hv : OpV w v o) (n m t : Int) (hn1 : 1 ≤ n) (hn2 : n ≤ 262144) (hm1 : 1 ≤ m) (hm2 : m ≤ 262144) :
    Calls Try.prog 43 #[v, .int .i64 n, .int .i64 m, .int .i64 t] w fun e w' => e = .returned (.bool (fitsL o n m t)) ∧ Below w.heap.size w w' := by
  obtain ⟨a1, a2, a3, c1, c2, c3, rfl, h1, h2, h3, h4, h5, h6⟩ := hv.ex
  have q1 := h1.len
  have q2 := h2.len
  have q3 := h3.len
  obtain ⟨kind, dst, src, other, cols, inner, index, weights, bias, mul, shift⟩ := o
  simp only at *
  by_cases k1 : kind = 1
  · subst k1
    exact (kFits1 dst src other cols inner mul shift a1 a2 a3 index _ _ c1 c2 c3 q2 q3 n m t hm1 hm2 w h1).mono fun e w' ⟨he, hb⟩ => ⟨he.trans (ret_bool rfl), hb⟩
  by_cases k2 : kind = 2
  · subst k2
    have hR : fitsL ⟨2, dst, src, other, cols, inner, index, weights, bias, mul, shift⟩ n m t = decide (other = 0 ∧ mul = 0 ∧ shift = 0 ∧ index.length = 0 ∧ 1 ≤ cols ∧ cols ≤ 262144 ∧ 1 ≤ inner ∧ inner ≤ 262144 ∧ m = inner * cols ∧ n % cols = 0 ∧ (bias.length : Int) = n / cols ∧ (weights.length : Int) = bias.length * inner) := rfl
    have conv : ∀ {b : Bool}, fitsL ⟨2, dst, src, other, cols, inner, index, weights, bias, mul, shift⟩ n m t = b →
        (Calls Try.prog 43 #[.agg #[.int .i64 2, .int .i64 dst, .int .i64 src, .int .i64 other, .int .i64 cols, .int .i64 inner, .slice a1 index.length c1, .slice a2 weights.length c2, .slice a3 bias.length c3, .int .i64 mul, .int .i64 shift], .int .i64 n, .int .i64 m, .int .i64 t] w fun e w' => e = .returned (.bool b) ∧ Below w.heap.size w w') →
        Calls Try.prog 43 #[.agg #[.int .i64 2, .int .i64 dst, .int .i64 src, .int .i64 other, .int .i64 cols, .int .i64 inner, .slice a1 index.length c1, .slice a2 weights.length c2, .slice a3 bias.length c3, .int .i64 mul, .int .i64 shift], .int .i64 n, .int .i64 m, .int .i64 t] w fun e w' => e = .returned (.bool (fitsL ⟨2, dst, src, other, cols, inner, index, weights, bias, mul, shift⟩ n m t)) ∧ Below w.heap.size w w' := by
      intro b hb h; rw [hb]; exact h
    rw [hR] at conv
    rw [hR]
    by_cases hb0 : other = 0 ∧ mul = 0 ∧ shift = 0 ∧ index.length = 0
    · by_cases hc0 : 1 ≤ cols ∧ cols ≤ 262144
      · by_cases hi0 : 1 ≤ inner ∧ inner ≤ 262144
        · by_cases t1 : m = inner * cols
          · by_cases t2 : n % cols = 0
            · by_cases t3 : (bias.length : Int) = n / cols
              · by_cases t4 : (weights.length : Int) = bias.length * inner
                · exact conv (decide_eq_true ⟨hb0.1, hb0.2.1, hb0.2.2.1, hb0.2.2.2, hc0.1, hc0.2, hi0.1, hi0.2, t1, t2, t3, t4⟩) (kFits2_5 dst src other cols inner mul shift a1 a2 a3 _ _ _ c1 c2 c3 q1 q2 q3 n m t hn1 hn2 hb0 hc0 hi0 t1 t2 t3 t4 w)
                · exact conv (decide_eq_false fun g => t4 g.2.2.2.2.2.2.2.2.2.2.2) (kFits2_4 dst src other cols inner mul shift a1 a2 a3 _ _ _ c1 c2 c3 q1 q2 q3 n m t hn1 hn2 hb0 hc0 hi0 t1 t2 t3 t4 w)
              · exact conv (decide_eq_false fun g => t3 g.2.2.2.2.2.2.2.2.2.2.1) (kFits2_3 dst src other cols inner mul shift a1 a2 a3 _ _ _ c1 c2 c3 q1 q2 q3 n m t hn1 hn2 hb0 hc0 hi0 t1 t2 t3 w)
            · exact conv (decide_eq_false fun g => t2 g.2.2.2.2.2.2.2.2.2.1) (kFits2_2 dst src other cols inner mul shift a1 a2 a3 _ _ _ c1 c2 c3 q1 q2 q3 n m t hn1 hn2 hb0 hc0 hi0 t1 t2 w)
          · exact conv (decide_eq_false fun g => t1 g.2.2.2.2.2.2.2.2.1) (kFits2_1 dst src other cols inner mul shift a1 a2 a3 _ _ _ c1 c2 c3 q1 q2 q3 n m t hn1 hn2 hb0 hc0 hi0 t1 w)
        · exact conv (decide_eq_false fun g => hi0 ⟨g.2.2.2.2.2.2.1, g.2.2.2.2.2.2.2.1⟩) (kFits2_i dst src other cols inner mul shift a1 a2 a3 _ _ _ c1 c2 c3 q1 q2 q3 n m t hn1 hn2 hb0 hc0 hi0 w)
      · exact conv (decide_eq_false fun g => hc0 ⟨g.2.2.2.2.1, g.2.2.2.2.2.1⟩) (kFits2_c dst src other cols inner mul shift a1 a2 a3 _ _ _ c1 c2 c3 q1 q2 q3 n m t hn1 hn2 hb0 hc0 w)
    · exact conv (decide_eq_false fun g => hb0 ⟨g.1, g.2.1, g.2.2.1, g.2.2.2.1⟩) (kFits2_b dst src other cols inner mul shift a1 a2 a3 _ _ _ c1 c2 c3 q1 q2 q3 n m t hn1 hn2 hb0 w)
  by_cases k3 : kind = 3
  · subst k3
    exact (kFits3 dst src other cols inner mul shift a1 a2 a3 _ _ _ c1 c2 c3 q1 q2 q3 n m t w).mono fun e w' ⟨he, hb⟩ => ⟨he.trans (ret_bool rfl), hb⟩
  by_cases k4 : kind = 4
  · subst k4
    exact (kFits4 dst src other cols inner mul shift a1 a2 a3 _ _ _ c1 c2 c3 q1 q2 q3 n m t hn1 hn2 w).mono fun e w' ⟨he, hb⟩ => ⟨he.trans (ret_bool rfl), hb⟩
  by_cases k5 : kind = 5
  · subst k5
    exact (kFits5 dst src other cols inner mul shift a1 a2 a3 _ _ _ c1 c2 c3 q1 q2 q3 n m t hn1 hn2 w).mono fun e w' ⟨he, hb⟩ => ⟨he.trans (ret_bool rfl), hb⟩
  by_cases k6 : kind = 6
  · subst k6
    exact (kFits6 dst src other cols inner mul shift a1 a2 a3 _ _ _ c1 c2 c3 q1 q2 q3 n m t w).mono fun e w' ⟨he, hb⟩ => ⟨he.trans (ret_bool rfl), hb⟩
  by_cases k7 : kind = 7
  · subst k7
    exact (kFits7 dst src other cols inner mul shift a1 a2 a3 _ _ _ c1 c2 c3 q1 q2 q3 n m t w).mono fun e w' ⟨he, hb⟩ => ⟨he.trans (ret_bool rfl), hb⟩
  · have hR : fitsL ⟨kind, dst, src, other, cols, inner, index, weights, bias, mul, shift⟩ n m t = false := by
      simp [fitsL, k1, k2, k3, k4, k5, k6, k7]
    rw [hR]
    exact kFits0 kind dst src other cols inner mul shift (by omega) a1 a2 a3 _ _ _ c1 c2 c3 n m t w

end Go.Proofs.Ythlmgejikbmmaaa

/-
  Kernels in memory. The walk of kernel.bounds: by contract.
-/
namespace Go.Proofs.Ythlmgejikbmmaaa
open Go.RowKit

/-- The slice at a reads as the rationals L. -/
structure RatsAt (w : World) (a : Option Addr) (L : List RatL) : Prop where
  len : L.length ≤ 9223372036854775807
  row : L = [] ∨ ∃ b off, a = some ⟨b, off, none⟩ ∧ b < w.heap.size ∧ ∀ (j : Nat) (x : RatL), L[j]? = some x → ∃ (an ad : Option Addr) (cn cd : Nat), w.cell? ⟨b, off + j * 3, none⟩ = some (.bool x.neg) ∧ w.cell? ⟨b, off + j * 3 + 1, none⟩ = some (.slice an x.num.length cn) ∧ w.cell? ⟨b, off + j * 3 + 2, none⟩ = some (.slice ad x.den.length cd) ∧
    RatV w (.agg #[.bool x.neg, .slice an x.num.length cn, .slice ad x.den.length cd]) x
theorem RatsAt.below {w w' : World} {a : Option Addr} {L : List RatL} (h : RatsAt w a L) (hb : Below w.heap.size w w') : RatsAt w' a L := by
  refine ⟨h.len, h.row.imp id ?_⟩
  rintro ⟨b, off, rfl, hs, hc⟩
  refine ⟨b, off, rfl, Nat.lt_of_lt_of_le hs hb.size, fun j x hj => ?_⟩
  obtain ⟨an, ad, cn, cd, h1, h2, h3, h4⟩ := hc j x hj
  exact ⟨an, ad, cn, cd, (hb.cell hs).trans h1, (hb.cell hs).trans h2, (hb.cell hs).trans h3, h4.below hb⟩
theorem RatsAt.pick {w : World} {a : Option Addr} {L : List RatL} (h : RatsAt w a L) {k : Nat} (hk : k < L.length) :
    ∃ b off x an ad cn cd, a = some ⟨b, off, none⟩ ∧ b < w.heap.size ∧ L[k]? = some x ∧ w.cell? ⟨b, off + k * 3, none⟩ = some (.bool x.neg) ∧ w.cell? ⟨b, off + k * 3 + 1, none⟩ = some (.slice an x.num.length cn) ∧ w.cell? ⟨b, off + k * 3 + 2, none⟩ = some (.slice ad x.den.length cd) ∧
      RatV w (.agg #[.bool x.neg, .slice an x.num.length cn, .slice ad x.den.length cd]) x := by
  rcases h.row with rfl | ⟨b, off, rfl, hb, hc⟩
  · simp at hk
  · have hd : L[k]? = some L[k] := by simp [hk]
    obtain ⟨an, ad, cn, cd, h1, h2, h3, h4⟩ := hc k _ hd
    exact ⟨b, off, L[k], an, ad, cn, cd, rfl, hb, hd, h1, h2, h3, h4⟩

/-- The slice at a reads as the operations L. -/
structure OpsAt (w : World) (a : Option Addr) (L : List OpL) : Prop where
  len : L.length ≤ 9223372036854775807
  row : L = [] ∨ ∃ b off, a = some ⟨b, off, none⟩ ∧ b < w.heap.size ∧ ∀ (j : Nat) (x : OpL), L[j]? = some x → ∃ (a1 a2 a3 : Option Addr) (c1 c2 c3 : Nat),
    (w.cell? ⟨b, off + j * 11, none⟩ = some (.int .i64 x.kind) ∧ w.cell? ⟨b, off + j * 11 + 1, none⟩ = some (.int .i64 x.dst) ∧ w.cell? ⟨b, off + j * 11 + 2, none⟩ = some (.int .i64 x.src) ∧ w.cell? ⟨b, off + j * 11 + 3, none⟩ = some (.int .i64 x.other) ∧
      w.cell? ⟨b, off + j * 11 + 4, none⟩ = some (.int .i64 x.cols) ∧ w.cell? ⟨b, off + j * 11 + 5, none⟩ = some (.int .i64 x.inner) ∧ w.cell? ⟨b, off + j * 11 + 6, none⟩ = some (.slice a1 x.index.length c1) ∧ w.cell? ⟨b, off + j * 11 + 7, none⟩ = some (.slice a2 x.weights.length c2) ∧
      w.cell? ⟨b, off + j * 11 + 8, none⟩ = some (.slice a3 x.bias.length c3) ∧ w.cell? ⟨b, off + j * 11 + 9, none⟩ = some (.int .i64 x.mul) ∧ w.cell? ⟨b, off + j * 11 + 10, none⟩ = some (.int .i64 x.shift)) ∧
    OpV w (.agg #[.int .i64 x.kind, .int .i64 x.dst, .int .i64 x.src, .int .i64 x.other, .int .i64 x.cols, .int .i64 x.inner, .slice a1 x.index.length c1, .slice a2 x.weights.length c2, .slice a3 x.bias.length c3, .int .i64 x.mul, .int .i64 x.shift]) x
theorem OpsAt.below {w w' : World} {a : Option Addr} {L : List OpL} (h : OpsAt w a L) (hb : Below w.heap.size w w') : OpsAt w' a L := by
  refine ⟨h.len, h.row.imp id ?_⟩
  rintro ⟨b, off, rfl, hs, hc⟩
  refine ⟨b, off, rfl, Nat.lt_of_lt_of_le hs hb.size, fun j x hj => ?_⟩
  obtain ⟨a1, a2, a3, c1, c2, c3, ⟨h0, h1, h2, h3, h4, h5, h6, h7, h8, h9, h10⟩, hv⟩ := hc j x hj
  exact ⟨a1, a2, a3, c1, c2, c3, ⟨(hb.cell hs).trans h0, (hb.cell hs).trans h1, (hb.cell hs).trans h2, (hb.cell hs).trans h3, (hb.cell hs).trans h4, (hb.cell hs).trans h5, (hb.cell hs).trans h6, (hb.cell hs).trans h7, (hb.cell hs).trans h8, (hb.cell hs).trans h9, (hb.cell hs).trans h10⟩, hv.below hb⟩

/-- A kernel. -/
structure KerL where
  sizes : List Int
  ops : List OpL
  output : Int
  inShift : Int
  outShift : Int
  lo : List RatL
  hi : List RatL
  err : List RatL

/-- A kernel as a value. -/
structure KerV (w : World) (v : Value) (k : KerL) : Prop where
  ex : ∃ (a1 a2 a3 a4 a5 : Option Addr) (c1 c2 c3 c4 c5 : Nat), v = .agg #[.slice a1 k.sizes.length c1, .slice a2 k.ops.length c2, .int .i64 k.output, .int .i64 k.inShift, .int .i64 k.outShift, .slice a3 k.lo.length c3, .slice a4 k.hi.length c4, .slice a5 k.err.length c5] ∧
    Ints w Any a1 k.sizes ∧ OpsAt w a2 k.ops ∧ RatsAt w a3 k.lo ∧ RatsAt w a4 k.hi ∧ RatsAt w a5 k.err
theorem KerV.below {w w' : World} {v : Value} {k : KerL} (h : KerV w v k) (hb : Below w.heap.size w w') : KerV w' v k := by
  obtain ⟨a1, a2, a3, a4, a5, c1, c2, c3, c4, c5, e, h1, h2, h3, h4, h5⟩ := h.ex
  exact ⟨a1, a2, a3, a4, a5, c1, c2, c3, c4, c5, e, h1.below hb, h2.below hb, h3.below hb, h4.below hb, h5.below hb⟩

/-- The numbers are not too long. -/
def RatL.Short (x : RatL) : Prop := x.num.length ≤ 1048576 ∧ x.den.length ≤ 1048576
def pairOK (a b : RatL) : Bool := validR a && (validR b && !decide (0 < cmpR a b))
def errOK (e : RatL) : Bool := validR e && !e.neg
def boundsL (k : KerL) : Bool :=
  decide ((k.lo.length : Int) = k.sizes.getD 0 0 ∧ (k.hi.length : Int) = k.sizes.getD 0 0 ∧ (k.err.length : Int) = k.sizes.getD k.output.toNat 0) && ((k.lo.zip k.hi).all (fun p => pairOK p.1 p.2) && k.err.all errOK)

/-- A struct of eight cells in block g. -/
structure Box8 (w : World) (g : Nat) (p0 p1 p2 p3 p4 p5 p6 p7 : Value) : Prop where
  c0 : w.cell? ⟨g, 0, none⟩ = some p0
  c1 : w.cell? ⟨g, 1, none⟩ = some p1
  c2 : w.cell? ⟨g, 2, none⟩ = some p2
  c3 : w.cell? ⟨g, 3, none⟩ = some p3
  c4 : w.cell? ⟨g, 4, none⟩ = some p4
  c5 : w.cell? ⟨g, 5, none⟩ = some p5
  c6 : w.cell? ⟨g, 6, none⟩ = some p6
  c7 : w.cell? ⟨g, 7, none⟩ = some p7
  lt : g < w.heap.size
theorem Box8.below {w w' : World} {g : Nat} {p0 p1 p2 p3 p4 p5 p6 p7 : Value} (h : Box8 w g p0 p1 p2 p3 p4 p5 p6 p7) (hb : Below w.heap.size w w') : Box8 w' g p0 p1 p2 p3 p4 p5 p6 p7 :=
  ⟨(hb.cell h.lt).trans h.c0, (hb.cell h.lt).trans h.c1, (hb.cell h.lt).trans h.c2, (hb.cell h.lt).trans h.c3, (hb.cell h.lt).trans h.c4, (hb.cell h.lt).trans h.c5, (hb.cell h.lt).trans h.c6, (hb.cell h.lt).trans h.c7, Nat.lt_of_lt_of_le h.lt hb.size⟩
theorem Box8.alloc (w : World) (p0 p1 p2 p3 p4 p5 p6 p7 : Value) (T : Nat) : Box8 (w.alloc (.cells #[p0, p1, p2, p3, p4, p5, p6, p7] T)) w.heap.size p0 p1 p2 p3 p4 p5 p6 p7 := by
  refine ⟨?_, ?_, ?_, ?_, ?_, ?_, ?_, ?_, by simp⟩ <;> (rw [World.cell?_alloc_at _ _ _ _ rfl]; rfl)

theorem zip_take_succ {α β : Type} {l : List α} {m : List β} {k : Nat} {x : α} {y : β} (hx : l[k]? = some x) (hy : m[k]? = some y) : (l.zip m).take (k + 1) = (l.zip m).take k ++ [(x, y)] := by
  have h : (l.zip m)[k]? = some (x, y) := by rw [List.getElem?_zip_eq_some]; exact ⟨hx, hy⟩
  rw [List.take_add_one, h]; rfl
theorem take_succ_at {α : Type} {l : List α} {k : Nat} {x : α} (hx : l[k]? = some x) : l.take (k + 1) = l.take k ++ [x] := by
  rw [List.take_add_one, hx]; rfl
theorem zip_mem {α β : Type} {l : List α} {m : List β} {k : Nat} {x : α} {y : β} (hx : l[k]? = some x) (hy : m[k]? = some y) : (x, y) ∈ l.zip m := by
  have h : (l.zip m)[k]? = some (x, y) := by rw [List.getElem?_zip_eq_some]; exact ⟨hx, hy⟩
  exact List.mem_of_getElem? h

end Go.Proofs.Ythlmgejikbmmaaa

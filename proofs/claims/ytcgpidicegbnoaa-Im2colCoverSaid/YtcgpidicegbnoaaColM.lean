/-
  The walk of the statement Im2colCover.
-/
import Derived.Test.YtcgpidicegbnoaaColE
import Derived.Test.YtcgpidicegbnoaaColL
import Derived.Test.YtcgpidicegbnoaaRoundT
namespace Go.Proofs.Ytcgpidicegbnoaa
open Go.RowKit Go.Shelf
attribute [local go_sem] Oper.semAt_some

theorem cellOf2 {w : World} {b : Nat} {v0 v1 : Value} {t : TypeId} {f : Nat × Nat} (h : w.heap[b]? = some (.cells #[v0, v1] t f)) :
    w.cell? ⟨b, 0, none⟩ = some v0 ∧ w.cell? ⟨b, 0 + 1, none⟩ = some v1 := by
  simp [World.cell?, h]

theorem alloc_ob {K : Act → World → Prop} {a : Act} {w : World} {o o' : Obj} (h : o = o') (hk : K a (w.alloc o')) : K a (w.alloc o) := by rw [h]; exact hk

/-- The four blocks of the law's own: the rows, the columns, the size, the result. -/
structure Own4 (w : World) (m0 m1 s0 s1 : Int) (W : World) : Prop where
  c0 : W.heap[w.heap.size]? = some (.cells #[.int .i64 m0] 3 (0, 0))
  c1 : W.heap[w.heap.size + 1]? = some (.cells #[.int .i64 m1] 3 (0, 0))
  c2 : W.heap[w.heap.size + 1 + 1]? = some (.cells #[.int .i64 s0, .int .i64 s1] 61 (0, 0))
  c3 : W.heap[w.heap.size + 1 + 1 + 1]? = some (.cells #[.bool false] 4 (0, 0))
  sz : w.heap.size + 4 ≤ W.heap.size
  be : Below w.heap.size w W

theorem Own4.below {w W V : World} {m0 m1 s0 s1 : Int} (h : Own4 w m0 m1 s0 s1 W) (hb : Below W.heap.size W V) : Own4 w m0 m1 s0 s1 V := by
  have := h.sz
  exact ⟨(hb.block _ (by omega)).trans h.c0, (hb.block _ (by omega)).trans h.c1, (hb.block _ (by omega)).trans h.c2, (hb.block _ (by omega)).trans h.c3, Nat.le_trans h.sz hb.size, h.be.trans (hb.mono (by omega))⟩
theorem Own4.start (w : World) (m0 m1 s0 s1 : Int) : Own4 w m0 m1 s0 s1 ((((w.alloc (.cells #[.int .i64 m0] 3)).alloc (.cells #[.int .i64 m1] 3)).alloc (.cells #[.int .i64 s0, .int .i64 s1] 61)).alloc (.cells #[.bool false] 4)) := by
  refine ⟨?_, ?_, ?_, ?_, by simp, (((((Below.refl _ w).alloc (Nat.le_refl _) _).alloc (by simp) _).alloc (by simp; omega) _).alloc (by simp; omega) _)⟩
  all_goals
    show ((((w.heap.push _).push _).push _).push _)[_]? = _
    simp only [Array.getElem?_push, Array.size_push]
  · rw [if_neg (by omega), if_neg (by omega), if_neg (by omega), if_pos (by first | trivial | omega)]
  · rw [if_neg (by omega), if_neg (by omega), if_pos (by first | trivial | omega)]
  · rw [if_neg (by omega), if_pos (by first | trivial | omega)]
  · rw [if_pos (by first | trivial | omega)]

set_option maxRecDepth 100000 in
set_option maxHeartbeats 3200000 in
theorem lawIm2colCover (m0 m1 s0 s1 : Int) (hm0 : -9223372036854775808 ≤ m0 ∧ m0 ≤ 9223372036854775807) (hm1 : -9223372036854775808 ≤ m1 ∧ m1 ≤ 9223372036854775807) (hs0 : -9223372036854775808 ≤ s0 ∧ s0 ≤ 9223372036854775807) (hs1 : -9223372036854775808 ≤ s1 ∧ s1 ≤ 9223372036854775807) (w : World) :
    Calls Try.prog 15 #[.int .i64 m0, .int .i64 m1, .agg #[.int .i64 s0, .int .i64 s1]] w fun e w' => e = .returned (.bool true) ∧ Below w.heap.size w w' := by
  have H0 := Lib.hid (Own4.start w m0 m1 s0 s1)
  refine (callsIn_wide (n := 5)).1 ?_
  refine callsIn_of_wp_marks Try.func15 rfl trivial ?_ rfl
  simp only [Try.ntmps15, List.size_toArray, List.length_cons, List.length_nil, Nat.reduceAdd, Nat.reduceSub, Array.replicate_succ, Array.replicate_zero, List.push_toArray, List.append_toArray, List.nil_append, List.cons_append]
  gi_wp2_with fail
  refine ⟨trivial, (callsIn_wide.2 (awake53 _)).mono ?_⟩
  rintro e w1 ⟨rfl, hb1⟩
  have H1 := Lib.hid (H0.out.below hb1)
  clear hb1 H0
  have a0 := cellOf H1.out.c0
  have a1 := cellOf H1.out.c1
  obtain ⟨a2, a3⟩ := cellOf2 H1.out.c2
  have d0 := cellOf H1.out.c3
  have f0 := frozenOf H1.out.c3
  have hbad : m0 < 1 ∨ (¬ m0 < 1 ∧ m1 < 1) ∨ (¬ m0 < 1 ∧ ¬ m1 < 1 ∧ m0 > 12) ∨ (¬ m0 < 1 ∧ ¬ m1 < 1 ∧ ¬ m0 > 12 ∧ m1 > 12) ∨ (¬ m0 < 1 ∧ ¬ m1 < 1 ∧ ¬ m0 > 12 ∧ ¬ m1 > 12 ∧ s0 < 1) ∨
      (¬ m0 < 1 ∧ ¬ m1 < 1 ∧ ¬ m0 > 12 ∧ ¬ m1 > 12 ∧ ¬ s0 < 1 ∧ s1 < 1) ∨ (¬ m0 < 1 ∧ ¬ m1 < 1 ∧ ¬ m0 > 12 ∧ ¬ m1 > 12 ∧ ¬ s0 < 1 ∧ ¬ s1 < 1) := by omega
  rcases hbad with h | ⟨g1, h⟩ | ⟨g1, g2, h⟩ | ⟨g1, g2, g3, h⟩ | ⟨g1, g2, g3, g4, h⟩ | ⟨g1, g2, g3, g4, g5, h⟩ | ⟨g1, g2, g3, g4, g5, g6⟩
  iterate 6
    · have HC5 := Lib.hid (World.cell?_setCell_same' w1 ⟨w.heap.size + 1 + 1 + 1, 0, none⟩ (.bool true) (by rw [d0]; rfl))
      have HB5 : Hid (Below w.heap.size w (w1.setCell ⟨w.heap.size + 1 + 1 + 1, 0, none⟩ (.bool true))) := H1.out.be.setCell (p := ⟨w.heap.size + 1 + 1 + 1, 0, none⟩) (by simp; omega) _
      gi_wp2
      refine ⟨.bool true, ?_, rfl, HB5.out⟩
      have := HC5.out
      simp [results, Try.f15, go_sem, this]
  obtain ⟨rows, rfl⟩ : ∃ n : Nat, m0 = n := ⟨m0.toNat, by omega⟩
  obtain ⟨cols, rfl⟩ : ∃ n : Nat, m1 = n := ⟨m1.toNat, by omega⟩
  obtain ⟨h, rfl⟩ : ∃ n : Nat, s0 = n := ⟨s0.toNat, by omega⟩
  obtain ⟨wd, rfl⟩ : ∃ n : Nat, s1 = n := ⟨s1.toNat, by omega⟩
  clear d0 f0
  gi_wp2_with fail
  rename_i K hK
  refine alloc_ob (K := K) (o' := .cells (covA (fun _ => 0)) 63 (0, 0)) (by kernel_rfl) ?_
  refine hK _ _ ?_
  clear hK K
  have hseen0 : (w1.alloc (.cells (covA (fun _ => 0)) 63 (0, 0))).heap[w1.heap.size]? = some (.cells (covA (fun _ => 0)) 63 (0, 0)) := heap_alloc_new w1 _
  have hbel0 : Below w1.heap.size w1 (w1.alloc (.cells (covA (fun _ => 0)) 63 (0, 0))) := (Below.refl _ w1).alloc (Nat.le_refl _) _
  have hszS : (w1.alloc (.cells (covA (fun _ => 0)) 63 (0, 0))).heap.size = w1.heap.size + 1 := by simp
  generalize w1.alloc (.cells (covA (fun _ => 0)) 63 (0, 0)) = w2 at *
  have H2 := Lib.hid (H1.out.below hbel0)
  have HS2 := Lib.hid hseen0
  have hs1 : w.heap.size + 4 ≤ w1.heap.size := H1.out.sz
  have HszS := Lib.hid hszS
  clear hseen0 hbel0 a0 a1 a2 a3 H1 hszS
  have a0 := cellOf H2.out.c0
  have a1 := cellOf H2.out.c1
  obtain ⟨a2, a3⟩ := cellOf2 H2.out.c2
  gi_wp2_with fail
  refine ⟨trivial, (callsIn_wide.2 (tTiles rows cols h wd _)).mono ?_⟩
  rintro e w5 ⟨rfl, hw5⟩
  have HW5 := Lib.hid hw5
  clear hw5 a0 a1 a2 a3
  gi_wp2_with fail
  have hszS := HszS.out
  have hsz5 : w5.heap.size = w2.heap.size + 4 := by rw [HW5.out]; simp
  have hb5 : Below w2.heap.size w2 w5 := by
    rw [HW5.out]
    exact (((((Below.refl _ w2).alloc (Nat.le_refl _) _).alloc (by simp) _).alloc (by simp; omega) _).alloc (by simp; omega) _)
  have H5 := Lib.hid (H2.out.below hb5)
  have hseen5 : w5.heap[w1.heap.size]? = some (.cells (covA (fun _ => 0)) 63 (0, 0)) := (hb5.block _ (by omega)).trans HS2.out
  have hseen5' : w5.heap[w1.heap.size]? = some (.cells (covA (covF rows cols h wd 0)) 63 (0, 0)) := hseen5.trans (congrArg (fun f => some (Obj.cells (covA f) 63 (0, 0))) (cov_zero rows cols h wd).symm)
  clear hseen5
  have hbx : w5.cell? ⟨w2.heap.size, 0, none⟩ = some (.int .i64 rows) ∧ w5.cell? ⟨w2.heap.size + 1, 0, none⟩ = some (.int .i64 cols) ∧ w5.cell? ⟨w2.heap.size + 2, 0, none⟩ = some (.int .i64 h) ∧ w5.cell? ⟨w2.heap.size + 3, 0, none⟩ = some (.int .i64 wd) := by
    rw [HW5.out]
    refine ⟨?_, ?_, ?_, ?_⟩
    · exact cellOf (show ((((w2.heap.push _).push _).push _).push _)[_]? = _ from by simp only [Array.getElem?_push, Array.size_push]; rw [if_neg (by omega), if_neg (by omega), if_neg (by omega), if_pos (by first | trivial | omega)])
    · exact cellOf (show ((((w2.heap.push _).push _).push _).push _)[_]? = _ from by simp only [Array.getElem?_push, Array.size_push]; rw [if_neg (by omega), if_neg (by omega), if_pos (by first | trivial | omega)])
    · exact cellOf (show ((((w2.heap.push _).push _).push _).push _)[_]? = _ from by simp only [Array.getElem?_push, Array.size_push]; rw [if_neg (by omega), if_pos (by first | trivial | omega)])
    · exact cellOf (show ((((w2.heap.push _).push _).push _).push _)[_]? = _ from by simp only [Array.getElem?_push, Array.size_push]; rw [if_pos (by first | trivial | omega)])
  obtain ⟨x0, x1, x2, x3⟩ := hbx
  have hit := tilesIter Fence.wide (5 - 1) trivial rfl (by omega) w2.heap.size rows cols h wd (by omega) (by omega) (by omega) (by omega) (by omega) (by omega) (by omega) (by omega)
    (fun b => b < w5.heap.size ∧ b ≠ w1.heap.size) ⟨by omega, by omega⟩ ⟨by omega, by omega⟩ ⟨by omega, by omega⟩ ⟨by omega, by omega⟩ w5 x0 x1 x2 x3
  clear x0 x1 x2 x3
  refine wpIn_iter rfl (by omega) (gf := 42) (lb := _) rfl trivial (enters_of Try.func42 (by kernel_rfl) rfl) hit (fun b hb => hb.1)
    (fun k xs _ h => by rw [h]; rfl)
    (fun k W => W.heap[w1.heap.size]? = some (.cells (covA (covF rows cols h wd k)) 63 (0, 0)))
    (fun _ _ => False)
    (fun k A B row h hg hr => own_block A B row h hg hr)
    (fun _ _ _ _ _ h _ _ => h)
    hseen5' ?body ?done ?stop
  case stop => intro D c W _ h; exact h.elim
  case done =>
    rintro D W hD hc hH hK
    have h3 := H5.out.sz
    have HcC := And.intro ((hH.block w.heap.size ⟨by omega, by omega⟩).trans H5.out.c0) ((hH.block (w.heap.size + 1) ⟨by omega, by omega⟩).trans H5.out.c1)
    have hr := (hH.block (w.heap.size + 1 + 1 + 1) ⟨by omega, by omega⟩).trans H5.out.c3
    have HBW : Hid (Below w1.heap.size w5 W) := hH.below (fun b hb => ⟨by omega, by omega⟩)
    have HCo := Lib.hid hc
    have HRr := Lib.hid hr
    have HKk := Lib.hid hK
    have HF1 : Hid (∀ rr cc, rr < 12 → cc < 12 → covF rows cols h wd (tilesN rows cols h wd) (rr * 12 + cc) = if rr < rows ∧ cc < cols then 1 else 0) := by
      intro rr cc h1 h2
      rw [cov_all (by omega) (by omega) (by omega) (by omega), show (rr * 12 + cc) / 12 = rr by omega, show (rr * 12 + cc) % 12 = cc by omega]
    have hWs : w5.heap.size ≤ W.heap.size := hH.size
    have hz1 : w1.heap.size < w5.heap.size := by omega
    clear hH hr hc hK hszS hsz5
    have HW0 : Hid (W.heap[w.heap.size]? = some (.cells #[.int .i64 rows] 3 (0, 0)) ∧ W.heap[w.heap.size + 1]? = some (.cells #[.int .i64 cols] 3 (0, 0))) := HcC
    clear HcC
    gi_wp2
    gi_loopw [11] (fun r wr => ∃ rr : Nat, rr ≤ 12 ∧ r = .int .i64 rr ∧ Below W.heap.size W wr) (fun r _ => 12 - (intOf r).toNat)
    case atStart => exact ⟨0, by omega, rfl, Below.refl _ _⟩
    case round =>
      obtain ⟨rr, hr1, rfl, hbr⟩ := hrel
      obtain ⟨wo, rfl⟩ : ∃ wo : World, wo = wr := ⟨_, rfl⟩
      by_cases hlt : rr < 12
      · have hdt : decide ((rr : Int) < 12) = true := by simp; omega
        gi_wp2
        gi_loopw [12] (fun c wi => ∃ cc : Nat, cc ≤ 12 ∧ c = .int .i64 cc ∧ Below wo.heap.size wo wi) (fun c _ => 12 - (intOf c).toNat)
        case atStart => exact ⟨0, by omega, rfl, Below.refl _ _⟩
        case round =>
          obtain ⟨cc, hc1, rfl, hbc⟩ := hrel
          by_cases hltc : cc < 12
          · have hlt2 : (rr : Int) < 12 := by omega
            have hB := hbr.trans (hbc.mono hbr.size)
            have a0 := cellOf ((hB.block w.heap.size (by omega)).trans HW0.out.1)
            have a1 := cellOf ((hB.block (w.heap.size + 1) (by omega)).trans HW0.out.2)
            have hx : rr * 12 + cc < 144 := by omega
            have d0 := covCell ((hB.block w1.heap.size (by omega)).trans HCo.out) hx
            rw [HF1.out rr cc hlt hltc] at d0
            by_cases g1' : rr < rows
            · by_cases g2' : cc < cols
              · rw [if_pos ⟨g1', g2'⟩] at d0
                gi_wp2
                gi_quiet_th (fail)
                clear a0 a1 d0
                gi_wp2
                go_roundw
                case rel => exact ⟨cc + 1, by omega, by go_num, below_drewN hbc _⟩
                case measure => simp [intOf]; omega
              · rw [if_neg (fun e => g2' e.2)] at d0
                have e2 : decide (cc < cols) = false := by simp; omega
                gi_wp2
                gi_quiet_th (fail)
                clear a0 a1 d0 e2
                gi_wp2
                go_roundw
                case rel => exact ⟨cc + 1, by omega, by go_num, below_drewN hbc _⟩
                case measure => simp [intOf]; omega
            · rw [if_neg (fun e => g1' e.1)] at d0
              have e1 : decide (rr < rows) = false := by simp; omega
              gi_wp2
              gi_quiet_th (fail)
              clear a0 a1 d0 e1
              gi_wp2
              go_roundw
              case rel => exact ⟨cc + 1, by omega, by go_num, below_drewN hbc _⟩
              case measure => simp [intOf]; omega
          · obtain rfl : cc = 12 := by omega
            gi_wp2
            go_roundw
            case rel => exact ⟨rr + 1, by omega, by go_num, hbr.trans (hbc.mono hbr.size)⟩
            case measure => simp [intOf]; omega
      · obtain rfl : rr = 12 := by omega
        have hr' := (hbr.block (w.heap.size + 1 + 1 + 1) (by omega)).trans HRr.out
        have c0 := cellOf hr'
        have f0 := frozenOf hr'
        have hKw := (hbr.block D (Array.getElem?_eq_some_iff.1 HKk.out).1).trans HKk.out
        have HKw := Lib.hid hKw
        have HBw : Hid (Below w.heap.size w wo) := H5.out.be.trans ((HBW.out.mono (by omega)).trans (hbr.mono (by omega)))
        clear hKw hr'
        gi_wp2
        have hK' := (KeepsOthers.setCell wo ⟨w.heap.size + 1 + 1 + 1, 0, none⟩ (.bool true)).same D _ HKw.out rfl
        refine ⟨by simp, .inl ⟨_, _, rfl, run_takeDeferred hK', ?_⟩⟩
        have hc5 := cell_kept (World.cell?_setCell_same' wo ⟨w.heap.size + 1 + 1 + 1, 0, none⟩ (.bool true) (by rw [c0]; rfl)) (grownBy_putObj' _ D (.deferred none)) (fun r e => by cases e; exact ⟨_, hK', rfl⟩)
        refine ⟨.bool true, ?_, rfl, ?_⟩
        · simp [results, Try.f15, go_sem, hc5]
        · exact ((HBw.out.setCell (p := ⟨w.heap.size + 1 + 1 + 1, 0, none⟩) (by simp; omega) _).trans (belowK_b (w := w) (Nat.le_refl _) _ D _ _ (by omega) hK' rfl rfl))
  case body =>
    rintro l k xs W hc hk rfl hH
    have HC := Lib.hid hc
    have HH := Lib.hid hH
    clear hH hc
    have hJ : 0 < cutN cols (min wd cols) := cutN_pos (by omega) (by omega)
    have hi : k / cutN cols (min wd cols) < cutN rows (min h rows) := (Nat.div_lt_iff_lt_mul hJ).2 (by unfold tilesN at hk; exact hk)
    have hj : k % cutN cols (min wd cols) < cutN cols (min wd cols) := Nat.mod_lt _ hJ
    have hkk : k / cutN cols (min wd cols) * cutN cols (min wd cols) + k % cutN cols (min wd cols) = k := Nat.div_add_mod' _ _
    rw [show tileV rows cols h wd k = .agg #[.int .i64 (cutAt rows h (k / cutN cols (min wd cols)) : Nat), .int .i64 (cutAt cols wd (k % cutN cols (min wd cols)) : Nat),
      .int .i64 (min h (rows - cutAt rows h (k / cutN cols (min wd cols))) : Nat), .int .i64 (min wd (cols - cutAt cols wd (k % cutN cols (min wd cols))) : Nat)] from rfl]
    have hend := mid_end (by omega) (by omega) (by omega) (by omega) (by omega) hi hj
    rw [hkk] at hend
    have s1 := (cut_step (n := rows) (h := h) (by omega) (by omega) hi).1
    have s3 := (cut_step (n := rows) (h := h) (by omega) (by omega) hi).2.2
    have t1 := (cut_step (n := cols) (h := wd) (by omega) (by omega) hj).1
    have t3 := (cut_step (n := cols) (h := wd) (by omega) (by omega) hj).2.2
    have k1 := cut_in (n := rows) (h := h) (by omega) (by omega) hi
    have k2 := cut_in (n := cols) (h := wd) (by omega) (by omega) hj
    have HE := Lib.hid hend
    clear hend hkk hi hj hJ
    have m1 : (if (rows : Int) - (cutAt rows h (k / cutN cols (min wd cols)) : Nat) < h then (rows : Int) - (cutAt rows h (k / cutN cols (min wd cols)) : Nat) else h) = ((min h (rows - cutAt rows h (k / cutN cols (min wd cols))) : Nat) : Int) := by split <;> omega
    have m2 : (if (cols : Int) - (cutAt cols wd (k % cutN cols (min wd cols)) : Nat) < wd then (cols : Int) - (cutAt cols wd (k % cutN cols (min wd cols)) : Nat) else wd) = ((min wd (cols - cutAt cols wd (k % cutN cols (min wd cols))) : Nat) : Int) := by split <;> omega
    generalize min h (rows - cutAt rows h (k / cutN cols (min wd cols))) = q1 at *
    generalize min wd (cols - cutAt cols wd (k % cutN cols (min wd cols))) = q2 at *
    generalize cutAt rows h (k / cutN cols (min wd cols)) = r0 at *
    generalize cutAt cols wd (k % cutN cols (min wd cols)) = c0 at *
    gi_wp2
    have hHa : Held (fun b => b < w5.heap.size ∧ b ≠ w1.heap.size) W (W.alloc (.cells #[.int .i64 r0, .int .i64 c0, .int .i64 q1, .int .i64 q2] 58)) := (Held.refl _ W).alloc (fun b hb => by have := HH.out.size; omega) _
    refine ⟨KeepsOthers.alloc _ _, hHa, fun A => A.heap[w1.heap.size]? = some (.cells (covA (covF rows cols h wd k)) 63 (0, 0)) ∧ A.heap[W.heap.size]? = some (.cells #[.int .i64 r0, .int .i64 c0, .int .i64 q1, .int .i64 q2] 58 (0, 0)),
      fun _ A B row h hg hr => ⟨own_block A B row h.1 hg hr, own_block A B row h.2 hg hr⟩,
      ⟨(Below.heap_alloc _ _ _ (Array.getElem?_eq_some_iff.1 HC.out).1).trans HC.out, heap_alloc_new W _⟩, ?_⟩
    rintro W2 ⟨hcv, hbx⟩ hH2
    have h3 := H5.out.sz
    have hs5 : w1.heap.size < w5.heap.size := by omega
    have hW5 : w5.heap.size ≤ W.heap.size := HH.out.size
    have HBL : Hid (W2.heap[w.heap.size]? = some (.cells #[.int .i64 rows] 3 (0, 0)) ∧ W2.heap[w.heap.size + 1]? = some (.cells #[.int .i64 cols] 3 (0, 0)) ∧ W2.heap[w.heap.size + 1 + 1]? = some (.cells #[.int .i64 h, .int .i64 wd] 61 (0, 0)) ∧
        W2.heap[W.heap.size]? = some (.cells #[.int .i64 r0, .int .i64 c0, .int .i64 q1, .int .i64 q2] 58 (0, 0))) :=
      ⟨(hH2.block w.heap.size ⟨by omega, by omega⟩).trans H5.out.c0, (hH2.block (w.heap.size + 1) ⟨by omega, by omega⟩).trans H5.out.c1, (hH2.block (w.heap.size + 1 + 1) ⟨by omega, by omega⟩).trans H5.out.c2, hbx⟩
    have HCV := Lib.hid hcv
    have a0 := cellOf HBL.out.1
    have a1 := cellOf HBL.out.2.1
    obtain ⟨a2, a3⟩ := cellOf2 HBL.out.2.2.1
    obtain ⟨b0, b1, b2, b3⟩ := cellOf4 HBL.out.2.2.2
    clear hcv hbx hH2 hHa hszS hsz5
    gi_wp2
    clear m1 m2 a0 a1 a2 a3 b0 b1 b2 b3
    gi_loopw [9] (fun r wr => ∃ rr : Nat, r0 ≤ rr ∧ rr ≤ r0 + q1 ∧ r = .int .i64 rr ∧ KeepsOthers W2 wr ∧ Held (fun b => b ≠ w1.heap.size) W2 wr ∧ Hid (wr.heap[w1.heap.size]? = some (.cells (covA (midF (covF rows cols h wd k) r0 c0 (c0 + q2) rr c0)) 63 (0, 0))))
      (fun r _ => r0 + q1 - (intOf r).toNat)
    case atStart => exact ⟨r0, by omega, by omega, rfl, KeepsOthers.refl _, Held.refl _ _, by rw [mid_start]; exact HCV.out⟩
    case round =>
      obtain ⟨rr, hr1, hr2, rfl, hko, hhe, hcv⟩ := hrel
      obtain ⟨b0, b1, b2, b3⟩ := cellOf4 ((hhe.block W.heap.size (by omega)).trans HBL.out.2.2.2)
      by_cases hlt : rr < r0 + q1
      · have hlt' : decide ((rr : Int) < (r0 : Int) + (q1 : Int)) = true := by simp; omega
        gi_wp2
        clear b0 b1 b2 b3 hlt'
        gi_loopw [10] (fun c wi => ∃ cc : Nat, c0 ≤ cc ∧ cc ≤ c0 + q2 ∧ c = .int .i64 cc ∧ KeepsOthers W2 wi ∧ Held (fun b => b ≠ w1.heap.size) W2 wi ∧ Hid (wi.heap[w1.heap.size]? = some (.cells (covA (midF (covF rows cols h wd k) r0 c0 (c0 + q2) rr cc)) 63 (0, 0))))
          (fun c _ => c0 + q2 - (intOf c).toNat)
        case atStart => exact ⟨c0, by omega, by omega, rfl, hko, hhe, hcv⟩
        case round =>
          clear hko hhe hcv
          obtain ⟨cc, hc1, hc2, rfl, hko, hhe, hcv⟩ := hrel
          obtain ⟨b0, b1, b2, b3⟩ := cellOf4 ((hhe.block W.heap.size (by omega)).trans HBL.out.2.2.2)
          by_cases hltc : cc < c0 + q2
          · have hlt' : decide ((cc : Int) < (c0 : Int) + (q2 : Int)) = true := by simp; omega
            have hx : rr * 12 + cc < 144 := by omega
            have d0 := covCell hcv.out hx
            have d1 := covFrozen hcv.out (rr * 12 + cc)
            have hv : (midF (covF rows cols h wd k) r0 c0 (c0 + q2) rr cc (rr * 12 + cc)) ≤ 100 := by
              unfold midF covF
              split <;> split <;> omega
            have HS := Lib.hid (mid_step (covF rows cols h wd k) hr1 hc1 hltc (show cc < 12 by omega))
            generalize midF (covF rows cols h wd k) r0 c0 (c0 + q2) rr cc (rr * 12 + cc) = v at *
            gi_wp2
            have hlr : (rr : Int) < 12 := by omega
            have hlc : (cc : Int) < 12 := by omega
            refine wpIn_region_still_tail_round 8 (by kernel_rfl) (by kernel_rfl) (by kernel_rfl) ?_
            simp only [List.take_succ_cons, List.take_zero, List.drop_succ_cons, List.drop_zero]
            repeat still_step
            refine wpStill_nil ?_
            refine wpList_plain rfl fun K hK => ?_
            go_simp
            refine hK _ _ ?_
            clear hK K
            refine wpList_nil ⟨rfl, ?_⟩
            rw [IntWalk.i64_in _ (by omega)]
            have hset : Hid ((wr.setCell ⟨w1.heap.size, rr * 12 + cc, none⟩ (.int .i64 ((v : Int) + 1))).heap[w1.heap.size]? = some (.cells (covA (midF (covF rows cols h wd k) r0 c0 (c0 + q2) rr (cc + 1))) 63 (0, 0))) := by
              rw [HS.out]; exact covSet hcv.out hx (v + 1)
            clear d0 d1 hv
            gi_wp2
            go_roundw
            case rel => exact ⟨cc + 1, by omega, by omega, by go_num, hko.trans ((KeepsOthers.setCell _ _ _).trans (KeepsOthers.drew _)), (hhe.setCell (p := ⟨w1.heap.size, rr * 12 + cc, none⟩) (by simp) _).drewN 1, hset⟩
            case measure => simp [intOf]; omega
          · have hlt' : decide ((cc : Int) < (c0 : Int) + (q2 : Int)) = false := by simp; omega
            obtain rfl : cc = c0 + q2 := by omega
            gi_wp2
            go_roundw
            case rel => exact ⟨rr + 1, by omega, by omega, by go_num, hko, hhe, by rw [← mid_row]; exact hcv⟩
            case measure => simp [intOf]; omega
      · have hlt' : decide ((rr : Int) < (r0 : Int) + (q1 : Int)) = false := by simp; omega
        obtain rfl : rr = r0 + q1 := by omega
        gi_wp2
        exact ⟨hko, hhe.mono (fun b hb => hb.2), by rw [← HE.out]; exact hcv.out⟩

end Go.Proofs.Ytcgpidicegbnoaa

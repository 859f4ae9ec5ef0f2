/-
  The walk of the statement TensorAll.
-/
import Derived.Test.YtcgpidicegbnoaaTenS
namespace Go.Proofs.Ytcgpidicegbnoaa
open Go.RowKit Go.Shelf
attribute [local go_sem] Oper.semAt_some

theorem own_slice {w : World} {base E : Nat} {v : Value} {n : Nat} {xs : List Value} (h : w.ownsRow base E 1 v n xs) : ∃ a c, v = .slice a n c := by
  rcases h.2 with ⟨rfl, rfl⟩ | ⟨g, cap, cur, rfl, _⟩
  · exact ⟨none, 0, rfl⟩
  · exact ⟨_, _, rfl⟩

/-- The three blocks of the law's own: the shape, the stop, the result. -/
structure OwnA (w : World) (a : Option Addr) (n c : Nat) (st : Int) (W : World) : Prop where
  c0 : W.heap[w.heap.size]? = some (.cells #[.slice a n c] 22 (0, 0))
  c1 : W.heap[w.heap.size + 1]? = some (.cells #[.int .i64 st] 3 (0, 0))
  c2 : W.heap[w.heap.size + 1 + 1]? = some (.cells #[.bool false] 4 (0, 0))
  sz : w.heap.size + 3 ≤ W.heap.size
  be : Below w.heap.size w W

theorem OwnA.below {w W V : World} {a : Option Addr} {n c : Nat} {st : Int} (h : OwnA w a n c st W) (hb : Below W.heap.size W V) : OwnA w a n c st V := by
  have := h.sz
  exact ⟨(hb.block _ (by omega)).trans h.c0, (hb.block _ (by omega)).trans h.c1, (hb.block _ (by omega)).trans h.c2, Nat.le_trans h.sz hb.size, h.be.trans (hb.mono (by omega))⟩
theorem OwnA.start (w : World) (a : Option Addr) (n c : Nat) (st : Int) : OwnA w a n c st (((w.alloc (.cells #[.slice a n c] 22)).alloc (.cells #[.int .i64 st] 3)).alloc (.cells #[.bool false] 4)) := by
  refine ⟨?_, ?_, ?_, by simp, ((((Below.refl _ w).alloc (Nat.le_refl _) _).alloc (by simp) _).alloc (by simp; omega) _)⟩
  all_goals
    show (((w.heap.push _).push _).push _)[_]? = _
    simp only [Array.getElem?_push, Array.size_push]
  · rw [if_neg (by omega), if_neg (by omega), if_pos (by first | trivial | omega)]
  · rw [if_neg (by omega), if_pos (by first | trivial | omega)]
  · rw [if_pos (by first | trivial | omega)]

set_option maxRecDepth 100000 in
set_option maxHeartbeats 3200000 in
theorem lawTensorAll {w : World} {a : Option Addr} {l : List Int} (cap : Nat) (st : Int) (hst : -9223372036854775808 ≤ st ∧ st ≤ 9223372036854775807) (h : Ints w Any a l) :
    Calls Try.prog 10 #[.slice a l.length cap, .int .i64 st] w fun e w' => e = .returned (.bool true) ∧ Below w.heap.size w w' := by
  have H0 := Lib.hid (OwnA.start w a l.length cap st)
  have HI := Lib.hid h
  have hlen := h.len
  have hsz := sizeL_bd l
  clear h
  refine (callsIn_wide (n := 5)).1 ?_
  refine callsIn_of_wp_marks Try.func10 rfl trivial ?_ rfl
  simp only [Try.ntmps10, List.size_toArray, List.length_cons, List.length_nil, Nat.reduceAdd, Nat.reduceSub, Array.replicate_succ, Array.replicate_zero, List.push_toArray, List.append_toArray, List.nil_append, List.cons_append]
  gi_wp2_with fail
  refine ⟨trivial, (callsIn_wide.2 (awake11 _)).mono ?_⟩
  rintro e w1 ⟨rfl, hb1⟩
  have H1 := Lib.hid (H0.out.below hb1)
  clear hb1 H0
  have a0 := cellOf H1.out.c0
  have a1 := cellOf H1.out.c1
  have d0 := cellOf H1.out.c2
  have f0 := frozenOf H1.out.c2
  have HS := Lib.hid (rSize cap (HI.out.below H1.out.be))
  by_cases hbig : 200 < sizeL l
  · gi_wp2_with fail
    refine ⟨trivial, (callsIn_wide.2 HS.out).mono ?_⟩
    rintro e w2 ⟨rfl, rfl⟩
    gi_wp2_with fail
    refine ⟨trivial, (callsIn_wide.2 (awake11 _)).mono ?_⟩
    rintro e w2 ⟨rfl, hb2⟩
    have H2 := Lib.hid (H1.out.below hb2)
    clear hb2 a0 a1 d0 f0 H1
    have d0 := cellOf H2.out.c2
    have f0 := frozenOf H2.out.c2
    have HC5 := Lib.hid (World.cell?_setCell_same' w2 ⟨w.heap.size + 1 + 1, 0, none⟩ (.bool true) (by rw [d0]; rfl))
    have HB5 : Hid (Below w.heap.size w (w2.setCell ⟨w.heap.size + 1 + 1, 0, none⟩ (.bool true))) := H2.out.be.setCell (p := ⟨w.heap.size + 1 + 1, 0, none⟩) (by simp; omega) _
    gi_wp2
    refine ⟨.bool true, ?_, rfl, HB5.out⟩
    have := HC5.out
    simp [results, Try.f10, go_sem, this]
  obtain ⟨N, hN⟩ : ∃ N : Nat, sizeL l = (N : Int) := ⟨(sizeL l).toNat, by omega⟩
  have hN2 : N ≤ 200 := by omega
  have HN := Lib.hid hN
  clear hN hsz
  gi_wp2_with fail
  refine ⟨trivial, (callsIn_wide.2 HS.out).mono ?_⟩
  rintro e w2 ⟨rfl, rfl⟩
  have a0' : ∀ o o', ((w1.alloc o).alloc o').cell? ⟨w.heap.size, 0, none⟩ = some (.slice a l.length cap) := fun o o' =>
    cellOf (H1.out.below (((Below.refl _ w1).alloc (Nat.le_refl _) o).alloc (by simp) o')).c0
  gi_wp2_with fail
  refine ⟨trivial, (callsIn_wide.2 (tAll a l.length cap _)).mono ?_⟩
  rintro e w5 ⟨rfl, hw5⟩
  have HW5 := Lib.hid hw5
  clear hw5 a0 a0' a1 d0 f0 HS hbig
  gi_wp2_with fail
  have hsz5 : w5.heap.size = w1.heap.size + 3 := by rw [HW5.out]; simp
  have hb5 : Below w1.heap.size w1 w5 := by
    rw [HW5.out]
    exact ((((Below.refl _ w1).alloc (Nat.le_refl _) _).alloc (by simp) _).alloc (by simp; omega) _)
  have H5 := Lib.hid (H1.out.below hb5)
  have hs1 : w.heap.size + 3 ≤ w1.heap.size := H1.out.sz
  have hcnt : w5.heap[w1.heap.size]? = some (.cells #[.int .i64 0] 3 (0, 0)) := by
    rw [HW5.out]
    show (((w1.heap.push _).push _).push _)[_]? = _
    simp only [Array.getElem?_push, Array.size_push]
    rw [if_neg (by omega), if_neg (by omega), if_pos (by first | trivial | omega)]
  have hkep : w5.heap[w1.heap.size + 1]? = some (.cells #[.slice none 0 0] 31 (0, 0)) := by
    rw [HW5.out]
    show (((w1.heap.push _).push _).push _)[_]? = _
    simp only [Array.getElem?_push, Array.size_push]
    rw [if_neg (by omega), if_pos (by first | trivial | omega)]
  have hhdr : w5.cell? ⟨w1.heap.size + 2, 0, none⟩ = some (.slice a l.length cap) := by
    rw [HW5.out]
    exact cellOf (show (((w1.heap.push _).push _).push _)[_]? = _ from by simp only [Array.getElem?_push, Array.size_push]; rw [if_pos (by first | trivial | omega)])
  have hit := allIter (w1.heap.size + 2) a l cap N HN.out (fun b => b < w5.heap.size ∧ b ≠ w1.heap.size ∧ b ≠ w1.heap.size + 1) ⟨by omega, by omega, by omega⟩ w5 hhdr
    ((HI.out.mono (fun b hb _ => ⟨by omega, by omega, by omega⟩)).below H5.out.be)
  clear hhdr
  have HZ5 := Lib.hid hsz5
  refine wpIn_iter2 rfl (by omega) (gf := 41) (lb := _) rfl trivial (enters_of Try.func41 (by kernel_rfl) rfl) hit (fun b hb => hb.1)
    (fun k A xs W h => by obtain ⟨_, _, rfl, _⟩ := h; rfl)
    (Kept l w1.heap.size)
    (fun c W => c = .exit 0 ∧ ∃ k : Nat, k ≤ N ∧ (k : Int) = st ∧ Kept l w1.heap.size k W)
    (fun k A B row h hg hr => Kept.own k A B row h hg hr)
    (fun c _ A B row h hg hr => ⟨h.1, let ⟨k, h1, h2, h3⟩ := h.2; ⟨k, h1, h2, Kept.own k A B row h3 hg hr⟩⟩)
    ⟨by omega, hcnt, _, _, hkep, OwnSS.nil _ _ _⟩ ?body ?done ?stop
  case done =>
    rintro D W hD hk hH hK
    generalize hkk : N = k at hk
    have hkN : k ≤ N := by omega
    have hend : k = N ∨ (k : Int) = st := .inl hkk.symm
    clear hkk
    obtain ⟨_, hcn, v, xs, hkp, hown⟩ := hk
    obtain ⟨av, cv, rfl, hIn⟩ := hown.intss (by rw [rowsL_len]; omega)
    rw [rowsL_len] at hkp
    have hdr := (hH.block w.heap.size ⟨by omega, by omega, by omega⟩).trans H5.out.c0
    have hsp := (hH.block (w.heap.size + 1) ⟨by omega, by omega, by omega⟩).trans H5.out.c1
    have hrs := (hH.block (w.heap.size + 1 + 1) ⟨by omega, by omega, by omega⟩).trans H5.out.c2
    have hsW : w1.heap.size + 3 ≤ W.heap.size := by have := hH.size; omega
    have HBW : Hid (Below w.heap.size w W) := H5.out.be.trans (hH.below (fun b hb => ⟨by omega, by omega, by omega⟩))
    have HF := Lib.hid (And.intro hcn (And.intro hkp (And.intro hdr (And.intro hsp hrs))))
    have HIn := Lib.hid hIn
    have HKk := Lib.hid hK
    clear hcn hkp hdr hsp hrs hIn hK hH hown hsz5
    gi_wp2
    gi_loopw [11] (fun i wr => ∃ j : Nat, j ≤ k ∧ i = .int .i64 j ∧ Below W.heap.size W wr) (fun i _ => k - (intOf i).toNat)
    case atStart => exact ⟨0, by omega, rfl, Below.refl _ _⟩
    case round =>
      obtain ⟨j, hj, rfl, hbr⟩ := hrel
      have hI := HI.out.below (HBW.out.trans (hbr.mono (by omega)))
      have c0 := cellOf ((hbr.block (w1.heap.size + 1) (by omega)).trans HF.out.2.1)
      have c1 := cellOf ((hbr.block w.heap.size (by omega)).trans HF.out.2.2.1)
      by_cases hlt : j < k
      · have hv : validL l = true := by
          cases hv : validL l
          · have := HN.out; simp [sizeL, hv] at this; omega
          · rfl
        have E1 := Lib.hid (index_at hv (i := (j : Int)) (by omega) (by have := HN.out; omega)).1
        have HT := Lib.hid (rAt cap (j : Int) hI)
        clear hv hI
        gi_wp2_with fail
        refine ⟨trivial, (callsIn_wide.2 HT.out).mono ?_⟩
        rintro e w3 ⟨v3, rfl, a3, c3, rfl, hj3, hb3⟩
        rw [E1.out] at hj3 ⊢
        have hb3' := hbr.trans (hb3.mono hbr.size)
        clear c0 c1 hb3
        obtain ⟨bb, off, lj, aj, cj, rfl, d0, d1, _, hIj, _, _⟩ := (HIn.out.below hb3').pick (k := j) (by rw [rowsL_len]; exact hlt)
        rw [rowsL_get l hlt] at d1
        obtain rfl := Option.some.inj d1
        have c0 := cellOf ((hb3'.block (w1.heap.size + 1) (by omega)).trans HF.out.2.1)
        have HT2 := Lib.hid (rInts_as cj c3 hIj hj3 (show sameL (coordsFrom l (j : Int)).2 (coordsFrom l (j : Int)).2 = true by simp [sameL]))
        have HB3 := Lib.hid hb3'
        clear d1 hIj hj3 hb3'
        gi_wp2_with fail
        refine ⟨trivial, (callsIn_wide.2 HT2.out).mono ?_⟩
        rintro e w4 ⟨rfl, hb4⟩
        have HB4 : Hid (Below W.heap.size W w4) := HB3.out.trans (hb4.mono HB3.out.size)
        clear hb4 c0 d0
        gi_wp2
        go_roundw
        case rel => exact ⟨j + 1, by omega, by go_num, HB4.out⟩
        case measure => simp [intOf]; omega
      · obtain rfl : j = k := by omega
        have c2 := cellOf ((hbr.block (w1.heap.size) (by omega)).trans HF.out.1)
        have c3 := cellOf ((hbr.block (w.heap.size + 1) (by omega)).trans HF.out.2.2.2.1)
        have hr := (hbr.block (w.heap.size + 1 + 1) (by omega)).trans HF.out.2.2.2.2
        have c4 := cellOf hr
        have f4 := frozenOf hr
        have hDn : D < W.heap.size := (Array.getElem?_eq_some_iff.1 HKk.out).1
        have HKw := Lib.hid ((hbr.block D hDn).trans HKk.out)
        have HBw : Hid (Below w.heap.size w wr) := HBW.out.trans (hbr.mono (by omega))
        have HSz := Lib.hid (rSize cap (hI.drewN 1))
        clear hr hI
        gi_wp2
        refine wpIn_wide.2 ?_
        refine wp_region_still_tail 9 (by kernel_rfl) (by kernel_rfl) ?_
        simp only [List.take_succ_cons, List.take_zero, List.drop_succ_cons, List.drop_zero]
        have hNk : ((j : Int) == sizeL l) = decide (j = N) := by
          rw [HN.out]; by_cases h : j = N
          · subst h; simp
          · simp [h]; omega
        still_step
        still_step
        still_call ((HSz.out).mono (fun _ _ ⟨ha, hb⟩ => ⟨ha, hb.symm⟩))
        by_cases hjN : j = N
        · have hd1 : ((j : Int) == sizeL l) = true := by rw [hNk]; simp [hjN]
          clear hNk hjN
          repeat still_step
          refine wpStill_nil ?_
          refine wpList_plain rfl fun K hK => ?_
          go_simp
          refine hK _ _ ?_
          clear hK K
          refine wpList_nil ?_
          gi_wp2
          have hK' : ((wr.setCell ⟨w.heap.size + 1 + 1, 0, none⟩ (.bool true)).drew).heap[D]? = some (.deferred (some [])) := (KeepsOthers.setCell wr ⟨w.heap.size + 1 + 1, 0, none⟩ (.bool true)).same D _ HKw.out rfl
          refine ⟨by simp, .inl ⟨_, _, rfl, run_takeDeferred hK', ?_⟩⟩
          have hcs : ((wr.setCell ⟨w.heap.size + 1 + 1, 0, none⟩ (.bool true)).drew).cell? ⟨w.heap.size + 1 + 1, 0, none⟩ = some (.bool true) := World.cell?_setCell_same' wr ⟨w.heap.size + 1 + 1, 0, none⟩ (.bool true) (by rw [c4]; rfl)
          have hc5 := cell_kept hcs (grownBy_putObj' _ D (.deferred none)) (fun r e => by cases e; exact ⟨_, hK', rfl⟩)
          refine ⟨.bool true, ?_, rfl, ?_⟩
          · simp [results, Try.f10, go_sem, hc5]
          · exact ((below_drewN (HBw.out.setCell (p := ⟨w.heap.size + 1 + 1, 0, none⟩) (by simp; omega) _) 1).trans (belowK_b (w := w) (Nat.le_refl _) _ D _ _ (by have := HZ5.out; omega) hK' rfl rfl))
        · have hd1 : ((j : Int) == sizeL l) = false := by rw [hNk]; simp [hjN]
          have hd2 : ((j : Int) == st) = true := by
            have := hend.resolve_left hjN
            rw [this]; simp
          clear hNk hjN
          repeat still_step
          refine wpStill_nil ?_
          refine wpList_plain rfl fun K hK => ?_
          go_simp
          refine hK _ _ ?_
          clear hK K
          refine wpList_nil ?_
          gi_wp2
          have hK' : ((wr.setCell ⟨w.heap.size + 1 + 1, 0, none⟩ (.bool true)).drew).heap[D]? = some (.deferred (some [])) := (KeepsOthers.setCell wr ⟨w.heap.size + 1 + 1, 0, none⟩ (.bool true)).same D _ HKw.out rfl
          refine ⟨by simp, .inl ⟨_, _, rfl, run_takeDeferred hK', ?_⟩⟩
          have hcs : ((wr.setCell ⟨w.heap.size + 1 + 1, 0, none⟩ (.bool true)).drew).cell? ⟨w.heap.size + 1 + 1, 0, none⟩ = some (.bool true) := World.cell?_setCell_same' wr ⟨w.heap.size + 1 + 1, 0, none⟩ (.bool true) (by rw [c4]; rfl)
          have hc5 := cell_kept hcs (grownBy_putObj' _ D (.deferred none)) (fun r e => by cases e; exact ⟨_, hK', rfl⟩)
          refine ⟨.bool true, ?_, rfl, ?_⟩
          · simp [results, Try.f10, go_sem, hc5]
          · exact ((below_drewN (HBw.out.setCell (p := ⟨w.heap.size + 1 + 1, 0, none⟩) (by simp; omega) _) 1).trans (belowK_b (w := w) (Nat.le_refl _) _ D _ _ (by have := HZ5.out; omega) hK' rfl rfl))
  case stop =>
    rintro D c W hD ⟨rfl, k, hkN, hks, hk⟩ hH hK
    have hend : k = N ∨ (k : Int) = st := .inr hks
    clear hks
    obtain ⟨_, hcn, v, xs, hkp, hown⟩ := hk
    obtain ⟨av, cv, rfl, hIn⟩ := hown.intss (by rw [rowsL_len]; omega)
    rw [rowsL_len] at hkp
    have hdr := (hH.block w.heap.size ⟨by omega, by omega, by omega⟩).trans H5.out.c0
    have hsp := (hH.block (w.heap.size + 1) ⟨by omega, by omega, by omega⟩).trans H5.out.c1
    have hrs := (hH.block (w.heap.size + 1 + 1) ⟨by omega, by omega, by omega⟩).trans H5.out.c2
    have hsW : w1.heap.size + 3 ≤ W.heap.size := by have := hH.size; omega
    have HBW : Hid (Below w.heap.size w W) := H5.out.be.trans (hH.below (fun b hb => ⟨by omega, by omega, by omega⟩))
    have HF := Lib.hid (And.intro hcn (And.intro hkp (And.intro hdr (And.intro hsp hrs))))
    have HIn := Lib.hid hIn
    have HKk := Lib.hid hK
    clear hcn hkp hdr hsp hrs hIn hK hH hown hsz5
    gi_wp2
    gi_loopw [11] (fun i wr => ∃ j : Nat, j ≤ k ∧ i = .int .i64 j ∧ Below W.heap.size W wr) (fun i _ => k - (intOf i).toNat)
    case atStart => exact ⟨0, by omega, rfl, Below.refl _ _⟩
    case round =>
      obtain ⟨j, hj, rfl, hbr⟩ := hrel
      have hI := HI.out.below (HBW.out.trans (hbr.mono (by omega)))
      have c0 := cellOf ((hbr.block (w1.heap.size + 1) (by omega)).trans HF.out.2.1)
      have c1 := cellOf ((hbr.block w.heap.size (by omega)).trans HF.out.2.2.1)
      by_cases hlt : j < k
      · have hv : validL l = true := by
          cases hv : validL l
          · have := HN.out; simp [sizeL, hv] at this; omega
          · rfl
        have E1 := Lib.hid (index_at hv (i := (j : Int)) (by omega) (by have := HN.out; omega)).1
        have HT := Lib.hid (rAt cap (j : Int) hI)
        clear hv hI
        gi_wp2_with fail
        refine ⟨trivial, (callsIn_wide.2 HT.out).mono ?_⟩
        rintro e w3 ⟨v3, rfl, a3, c3, rfl, hj3, hb3⟩
        rw [E1.out] at hj3 ⊢
        have hb3' := hbr.trans (hb3.mono hbr.size)
        clear c0 c1 hb3
        obtain ⟨bb, off, lj, aj, cj, rfl, d0, d1, _, hIj, _, _⟩ := (HIn.out.below hb3').pick (k := j) (by rw [rowsL_len]; exact hlt)
        rw [rowsL_get l hlt] at d1
        obtain rfl := Option.some.inj d1
        have c0 := cellOf ((hb3'.block (w1.heap.size + 1) (by omega)).trans HF.out.2.1)
        have HT2 := Lib.hid (rInts_as cj c3 hIj hj3 (show sameL (coordsFrom l (j : Int)).2 (coordsFrom l (j : Int)).2 = true by simp [sameL]))
        have HB3 := Lib.hid hb3'
        clear d1 hIj hj3 hb3'
        gi_wp2_with fail
        refine ⟨trivial, (callsIn_wide.2 HT2.out).mono ?_⟩
        rintro e w4 ⟨rfl, hb4⟩
        have HB4 : Hid (Below W.heap.size W w4) := HB3.out.trans (hb4.mono HB3.out.size)
        clear hb4 c0 d0
        gi_wp2
        go_roundw
        case rel => exact ⟨j + 1, by omega, by go_num, HB4.out⟩
        case measure => simp [intOf]; omega
      · obtain rfl : j = k := by omega
        have c2 := cellOf ((hbr.block (w1.heap.size) (by omega)).trans HF.out.1)
        have c3 := cellOf ((hbr.block (w.heap.size + 1) (by omega)).trans HF.out.2.2.2.1)
        have hr := (hbr.block (w.heap.size + 1 + 1) (by omega)).trans HF.out.2.2.2.2
        have c4 := cellOf hr
        have f4 := frozenOf hr
        have hDn : D < W.heap.size := (Array.getElem?_eq_some_iff.1 HKk.out).1
        have HKw := Lib.hid ((hbr.block D hDn).trans HKk.out)
        have HBw : Hid (Below w.heap.size w wr) := HBW.out.trans (hbr.mono (by omega))
        have HSz := Lib.hid (rSize cap (hI.drewN 1))
        clear hr hI
        gi_wp2
        refine wpIn_wide.2 ?_
        refine wp_region_still_tail 9 (by kernel_rfl) (by kernel_rfl) ?_
        simp only [List.take_succ_cons, List.take_zero, List.drop_succ_cons, List.drop_zero]
        have hNk : ((j : Int) == sizeL l) = decide (j = N) := by
          rw [HN.out]; by_cases h : j = N
          · subst h; simp
          · simp [h]; omega
        still_step
        still_step
        still_call ((HSz.out).mono (fun _ _ ⟨ha, hb⟩ => ⟨ha, hb.symm⟩))
        by_cases hjN : j = N
        · have hd1 : ((j : Int) == sizeL l) = true := by rw [hNk]; simp [hjN]
          clear hNk hjN
          repeat still_step
          refine wpStill_nil ?_
          refine wpList_plain rfl fun K hK => ?_
          go_simp
          refine hK _ _ ?_
          clear hK K
          refine wpList_nil ?_
          gi_wp2
          have hK' : ((wr.setCell ⟨w.heap.size + 1 + 1, 0, none⟩ (.bool true)).drew).heap[D]? = some (.deferred (some [])) := (KeepsOthers.setCell wr ⟨w.heap.size + 1 + 1, 0, none⟩ (.bool true)).same D _ HKw.out rfl
          refine ⟨by simp, .inl ⟨_, _, rfl, run_takeDeferred hK', ?_⟩⟩
          have hcs : ((wr.setCell ⟨w.heap.size + 1 + 1, 0, none⟩ (.bool true)).drew).cell? ⟨w.heap.size + 1 + 1, 0, none⟩ = some (.bool true) := World.cell?_setCell_same' wr ⟨w.heap.size + 1 + 1, 0, none⟩ (.bool true) (by rw [c4]; rfl)
          have hc5 := cell_kept hcs (grownBy_putObj' _ D (.deferred none)) (fun r e => by cases e; exact ⟨_, hK', rfl⟩)
          refine ⟨.bool true, ?_, rfl, ?_⟩
          · simp [results, Try.f10, go_sem, hc5]
          · exact ((below_drewN (HBw.out.setCell (p := ⟨w.heap.size + 1 + 1, 0, none⟩) (by simp; omega) _) 1).trans (belowK_b (w := w) (Nat.le_refl _) _ D _ _ (by have := HZ5.out; omega) hK' rfl rfl))
        · have hd1 : ((j : Int) == sizeL l) = false := by rw [hNk]; simp [hjN]
          have hd2 : ((j : Int) == st) = true := by
            have := hend.resolve_left hjN
            rw [this]; simp
          clear hNk hjN
          repeat still_step
          refine wpStill_nil ?_
          refine wpList_plain rfl fun K hK => ?_
          go_simp
          refine hK _ _ ?_
          clear hK K
          refine wpList_nil ?_
          gi_wp2
          have hK' : ((wr.setCell ⟨w.heap.size + 1 + 1, 0, none⟩ (.bool true)).drew).heap[D]? = some (.deferred (some [])) := (KeepsOthers.setCell wr ⟨w.heap.size + 1 + 1, 0, none⟩ (.bool true)).same D _ HKw.out rfl
          refine ⟨by simp, .inl ⟨_, _, rfl, run_takeDeferred hK', ?_⟩⟩
          have hcs : ((wr.setCell ⟨w.heap.size + 1 + 1, 0, none⟩ (.bool true)).drew).cell? ⟨w.heap.size + 1 + 1, 0, none⟩ = some (.bool true) := World.cell?_setCell_same' wr ⟨w.heap.size + 1 + 1, 0, none⟩ (.bool true) (by rw [c4]; rfl)
          have hc5 := cell_kept hcs (grownBy_putObj' _ D (.deferred none)) (fun r e => by cases e; exact ⟨_, hK', rfl⟩)
          refine ⟨.bool true, ?_, rfl, ?_⟩
          · simp [results, Try.f10, go_sem, hc5]
          · exact ((below_drewN (HBw.out.setCell (p := ⟨w.heap.size + 1 + 1, 0, none⟩) (by simp; omega) _) 1).trans (belowK_b (w := w) (Nat.le_refl _) _ D _ _ (by have := HZ5.out; omega) hK' rfl rfl))
  case body =>
    rintro ln k xs A0 W hi0 hb0 hi hk ⟨a2, c2, rfl, hj, hjc⟩ hH
    obtain ⟨hsz0, hc0, v, xs, hk0, hown0⟩ := hi0
    have hsW2 : w1.heap.size + 3 ≤ W.heap.size := Nat.le_trans hsz0 hb0.size
    have hsA : w1.heap.size + 1 < A0.heap.size := (Array.getElem?_eq_some_iff.1 hk0).1
    have hcW := (hb0.block _ (by omega)).trans hc0
    have hkW := (hb0.block _ hsA).trans hk0
    have hoW := hown0.frame hb0
    have hvb : ∀ b, A0.heap.size ≤ b → w1.heap.size + 3 ≤ b ∧ v.ownBlock ≠ some b := by
      intro b hb
      refine ⟨by omega, ?_⟩
      rcases hown0.own.2 with ⟨rfl, _⟩ | ⟨g, cap, cur, rfl, _, hg, _⟩
      · simp [Value.ownBlock]
      · have := (Array.getElem?_eq_some_iff.1 hg).1
        simp [Value.ownBlock]; omega
    have HVB := Lib.hid hvb
    have HJ := Lib.hid (And.intro hcW (And.intro hkW (And.intro hoW hj)))
    clear hc0 hk0 hown0 hcW hkW hoW hj hvb hi hb0
    gi_wp2
    refine ⟨KeepsOthers.refl _, Held.refl _ _, fun A => A.heap[w1.heap.size]? = some (.cells #[.int .i64 (k : Int)] 3 (0, 0)) ∧ A.heap[w1.heap.size + 1]? = some (.cells #[v] 31 (0, 0)) ∧ OwnSS A (w1.heap.size + 3) 22 v xs (rowsL l k) ∧
        Ints A (fun b => A0.heap.size ≤ b) a2 (coordsFrom l (k : Int)).2,
      fun _ A B row h hg hr => ⟨own_block A B row h.1 hg hr, own_block A B row h.2.1 hg hr, h.2.2.1.other hg hr, h.2.2.2.other hg hr⟩, HJ.out, ?_⟩
    rintro W2 ⟨hcn, hkp, hown, hj⟩ hH2
    have h3 := H5.out.sz
    have HBW : Hid (Below w.heap.size w W2) := H5.out.be.trans (hH2.below (fun b hb => ⟨by omega, by omega, by omega⟩))
    have c0 := cellOf ((hH2.block w.heap.size ⟨by omega, by omega, by omega⟩).trans H5.out.c0)
    have hv : validL l = true := by
      cases hv : validL l
      · have := HN.out; simp [sizeL, hv] at this; omega
      · rfl
    have E1 := Lib.hid (index_at hv (i := (k : Int)) (by omega) (by have := HN.out; omega)).1
    have HT := Lib.hid (rAt cap (k : Int) (HI.out.below HBW.out))
    have HF := Lib.hid (And.intro hcn (And.intro hkp (And.intro hown (And.intro hj hH2))))
    clear hv hcn hkp hown hj hH2 hsz5
    gi_wp2_with fail
    refine ⟨trivial, callsIn_round ((callsIn_wide.2 HT.out).mono ?_)⟩
    rintro e w3 ⟨v3, rfl, a3, c3, rfl, hj3, hb3⟩
    rw [E1.out] at hj3 ⊢
    obtain ⟨hcn, hkp, hown, hj, hH2⟩ := HF.out
    have hs2 : w1.heap.size + 3 ≤ W2.heap.size := by have := hH2.size; have := HZ5.out; omega
    have c1 := cellOf ((hb3.block w1.heap.size (by omega)).trans hcn)
    have HT2 := Lib.hid (rInts_as c2 c3 (hj.below hb3) hj3 (show sameL (coordsFrom l (k : Int)).2 (coordsFrom l (k : Int)).2 = true by simp [sameL]))
    have HB3 := Lib.hid hb3
    have HC2 := Lib.hid (show ∀ V, Below W2.heap.size W2 V → (V.cell? ⟨w.heap.size, 0, none⟩ = some (.slice a l.length cap) ∧ V.cell? ⟨w.heap.size + 1, 0, none⟩ = some (.int .i64 st) ∧ V.cell? ⟨w1.heap.size, 0, none⟩ = some (.int .i64 k) ∧ V.cell? ⟨w1.heap.size + 1, 0, none⟩ = some v) from fun V hV =>
      ⟨cellOf ((hV.block _ (by omega)).trans ((hH2.block w.heap.size ⟨by omega, by omega, by omega⟩).trans H5.out.c0)), cellOf ((hV.block _ (by omega)).trans ((hH2.block (w.heap.size + 1) ⟨by omega, by omega, by omega⟩).trans H5.out.c1)),
        cellOf ((hV.block _ (by omega)).trans hcn), cellOf ((hV.block _ (by omega)).trans hkp)⟩)
    clear hcn hkp hown hj hH2 hb3 hj3 c0
    gi_wp2_with fail
    refine ⟨trivial, callsIn_round ((callsIn_wide.2 HT2.out).mono ?_)⟩
    rintro e w4 ⟨rfl, hb4⟩
    have HB4 : Hid (Below W2.heap.size W2 w4) := HB3.out.trans (hb4.mono HB3.out.size)
    clear hb4 c1 HT2 HT
    obtain ⟨c0, cs, c1, ck⟩ := HC2.out w4 HB4.out
    have HS4 := Lib.hid (rSize cap (HI.out.below (HBW.out.trans (HB4.out.mono (by omega)))))
    have hge : decide (sizeL l ≤ (k : Int)) = false := by rw [HN.out]; simp; omega
    gi_wp2_with fail
    refine ⟨trivial, callsIn_round ((callsIn_wide.2 HS4.out).mono ?_)⟩
    rintro e w6 ⟨rfl, rfl⟩
    have HO4 := Lib.hid (HF.out.2.2.1.frame HB4.out)
    have HJ4 := Lib.hid (HF.out.2.2.2.1.below HB4.out)
    have hs4 : w1.heap.size + 3 ≤ w4.heap.size := by have := HB4.out.size; omega
    have hrl : (rowsL l k).length = k := rowsL_len l k
    have HRL := Lib.hid hrl
    have hob : ∀ b, b < w1.heap.size + 3 → v.ownBlock ≠ some b := by
      intro b hb e
      have := (HO4.out.own.lt b e).1
      omega
    have HC3 := Lib.hid (show ∀ V, w4.grownBy V v.ownBlock → (V.cell? ⟨w.heap.size, 0, none⟩ = some (.slice a l.length cap) ∧ V.cell? ⟨w.heap.size + 1, 0, none⟩ = some (.int .i64 st) ∧ V.cell? ⟨w1.heap.size, 0, none⟩ = some (.int .i64 k) ∧ V.cell? ⟨w1.heap.size + 1, 0, none⟩ = some v ∧
        V.frozen? ⟨w1.heap.size, 0, none⟩ = false ∧ V.frozen? ⟨w1.heap.size + 1, 0, none⟩ = false ∧ Hid (V.heap[w1.heap.size]? = some (.cells #[.int .i64 (k : Int)] 3 (0, 0)) ∧ V.heap[w1.heap.size + 1]? = some (.cells #[v] 31 (0, 0)))) from fun V hV => by
      have k0 := (hV.block w.heap.size (by omega) (fun e => hob _ (by omega) e.symm)).trans ((HB4.out.block _ (by omega)).trans ((HF.out.2.2.2.2.block w.heap.size ⟨by omega, by omega, by omega⟩).trans H5.out.c0))
      have k1 := (hV.block (w.heap.size + 1) (by omega) (fun e => hob _ (by omega) e.symm)).trans ((HB4.out.block _ (by omega)).trans ((HF.out.2.2.2.2.block (w.heap.size + 1) ⟨by omega, by omega, by omega⟩).trans H5.out.c1))
      have k2 := (hV.block w1.heap.size (by omega) (fun e => hob _ (by omega) e.symm)).trans ((HB4.out.block _ (by omega)).trans HF.out.1)
      have k3 := (hV.block (w1.heap.size + 1) (by omega) (fun e => hob _ (by omega) e.symm)).trans ((HB4.out.block _ (by omega)).trans HF.out.2.1)
      exact ⟨cellOf k0, cellOf k1, cellOf k2, cellOf k3, frozenOf k2, frozenOf k3, k2, k3⟩)
    clear hrl hob HC2
    gi_wp2_with (refine wpListIn_app1 rfl (.tmp 51) (.tmp 53) 31 rfl (w1.heap.size + 3) 22 (.slice none 0 0) 24 Try.underlying31 Try.info22 rfl _ (rowsL l k).length xs rfl HO4.out.own _ rfl rfl (by rw [HRL.out]; omega) (by unfold maxLen; rw [HRL.out]; omega) (by omega) ?_; intro v' w' ho' hg hn; obtain ⟨a', c', rfl⟩ := own_slice ho'; obtain ⟨x0, x1, x2, x3, x4, x5, HX6⟩ := HC3.out w' hg; have HG := Lib.hid (And.intro ho' (And.intro hg hn)); clear ho' hg hn c0 cs c1 ck)
    all_goals
      have hz5 := HZ5.out
      have hko : KeepsOthers W2 ((w'.setCell ⟨w1.heap.size + 1, 0, none⟩ (.slice a' ((rowsL l k).length + 1) c')).setCell ⟨w1.heap.size, 0, none⟩ (.int .i64 ((k : Int) + 1))) := by
        refine KeepsOthers.trans (show KeepsOthers W2 w4 from ⟨HB4.out.size, fun j o h _ => (HB4.out.block j (Array.getElem?_eq_some_iff.1 h).1).trans h⟩) (KeepsOthers.trans (KeepsOthers.of_grownBy HG.out.2.1 ?_) ((KeepsOthers.setCell _ _ _).trans (KeepsOthers.setCell _ _ _)))
        intro j o hj ho
        rcases HO4.out.own.2 with ⟨rfl, _⟩ | ⟨g, cap, cur, rfl, _, hg, _⟩
        · have hj' : (none : Option Nat) = some j := hj
          cases hj'
        · have hj' : some g = some j := hj
          cases hj'
          rw [hg] at ho
          cases ho
          rfl
      have hhe : Held (fun b => b < w5.heap.size ∧ b ≠ w1.heap.size ∧ b ≠ w1.heap.size + 1) W2 ((w'.setCell ⟨w1.heap.size + 1, 0, none⟩ (.slice a' ((rowsL l k).length + 1) c')).setCell ⟨w1.heap.size, 0, none⟩ (.int .i64 ((k : Int) + 1))) := by
        refine ((((Held.refl _ W2).trans (Held.of_below HB4.out (fun b hb => by omega))).grown HG.out.2.1 (fun b hb => by omega) (fun b hb hp => ?_)).setCell (p := ⟨w1.heap.size + 1, 0, none⟩) (by simp) _).setCell (p := ⟨w1.heap.size, 0, none⟩) (by simp) _
        have := (HO4.out.own.lt b hb).1
        omega
      have hke : Kept l w1.heap.size (k + 1) ((w'.setCell ⟨w1.heap.size + 1, 0, none⟩ (.slice a' ((rowsL l k).length + 1) c')).setCell ⟨w1.heap.size, 0, none⟩ (.int .i64 ((k : Int) + 1))) := by
        have hsw : w4.heap.size ≤ w'.heap.size := HG.out.2.1.size
        have z1 : (w'.setCell ⟨w1.heap.size + 1, 0, none⟩ (.slice a' ((rowsL l k).length + 1) c')).heap[w1.heap.size]? = some (.cells #[.int .i64 (k : Int)] 3 (0, 0)) := (Below.heap_setCell _ _ _ _ (by simp)).trans HX6.out.1
        have z2 := setHeap (u := .int .i64 ((k : Int) + 1)) z1
        have z3 : (w'.setCell ⟨w1.heap.size + 1, 0, none⟩ (.slice a' ((rowsL l k).length + 1) c')).heap[w1.heap.size + 1]? = some (.cells #[.slice a' ((rowsL l k).length + 1) c'] 31 (0, 0)) := setHeap HX6.out.2
        have z4 := (Below.heap_setCell (w'.setCell ⟨w1.heap.size + 1, 0, none⟩ (.slice a' ((rowsL l k).length + 1) c')) ⟨w1.heap.size, 0, none⟩ (.int .i64 ((k : Int) + 1)) (w1.heap.size + 1) (by simp)).trans z3
        have z5 := HO4.out.app HJ4.out hjc HVB.out HG.out.1 HG.out.2.1 HG.out.2.2
        rw [← rowsL_succ] at z5
        exact ⟨by simp [World.setCell]; omega, z2, _, _, z4, z5.high (by simp [World.setCell]) (fun b hb => (Below.heap_setCell _ _ _ _ (by simp; omega)).trans (Below.heap_setCell _ _ _ _ (by simp; omega)))⟩
      first
        | exact ⟨hko, hhe, hke⟩
        | (have hq : ((k : Int) + 1 == st) = true := by assumption
           have hq2 := eq_of_beq hq
           exact ⟨hko, hhe, rfl, k + 1, by omega, by omega, hke⟩)

end Go.Proofs.Ytcgpidicegbnoaa

/-
  The walk of the statement TensorCover.
-/
import Derived.Test.YtcgpidicegbnoaaTenP
namespace Go.Proofs.Ytcgpidicegbnoaa
open Go.RowKit

theorem sizeL_win {q : Win} {l : List Int} (hv : validL l = true) (hl : l = [(q.C : Int), (q.H : Int), (q.W : Int)]) : sizeL l = (q.C : Int) * q.H * q.W := by
  subst hl
  simp [sizeL, hv, prodFrom]

/-- The windows of one element: they are listed. -/
theorem units_ok {q : Win} (h : q.Ok) {l : List Int} (hv : validL l = true) (hl : l = [(q.C : Int), (q.H : Int), (q.W : Int)]) :
    ∃ u : Win, u.Ok ∧ u.C = q.C ∧ u.H = q.H ∧ u.W = q.W ∧ u.kh = 1 ∧ u.kw = 1 ∧ u.s = 1 ∧ u.p = 0 ∧ windowsL l 1 1 1 0 = (u.all, (u.R : Int), (u.Q : Int), 0) := by
  have h1 : argBad l 1 1 1 0 = false := by simp [argBad, hv, sideB]
  have h2 : shapeBad l 1 1 0 = false := by
    subst hl
    have := h.h1; have := h.w1
    simp [shapeBad]; omega
  obtain ⟨u, hu, hwin, hul, hkh, hkw, hs, hp⟩ := winOf_ok h1 h2
  rw [hl] at hul
  simp only [List.cons.injEq, and_true] at hul
  obtain ⟨e1, e2, e3⟩ := hul
  have k1 : u.kh = 1 := by omega
  have k2 : u.kw = 1 := by omega
  have k3 : u.s = 1 := by omega
  have k4 : u.p = 0 := by omega
  obtain ⟨_, _, ht, _⟩ := Win.units hu k1 k2 k3 k4
  have h3 : ¬ 262144 < (winOf l 1 1 1 0).total := by
    rw [hwin, ht]
    have := hu.chw
    have e : u.H * u.W * u.C = u.C * u.H * u.W := by rw [Nat.mul_comm, ← Nat.mul_assoc]
    omega
  refine ⟨u, hu, by omega, by omega, by omega, k1, k2, k3, k4, ?_⟩
  rw [windowsL_ok h1 h2 h3, hwin]

theorem rSize_is {w : World} {F : Nat → Prop} {a : Option Addr} {l : List Int} (cap : Nat) (h : Ints w F a l) {n : Int} (hn : sizeL l = n) :
    Calls Try.prog 24 #[.slice a l.length cap] w fun e w' => e = .returned (.int .i64 n) ∧ w' = w := by
  subst hn
  refine (rSize cap h).mono ?_
  rintro e w' ⟨rfl, rfl⟩
  exact ⟨rfl, rfl⟩

set_option maxRecDepth 100000 in
set_option maxHeartbeats 3200000 in
theorem lawTensorCover {w : World} {a : Option Addr} {l : List Int} (c : Nat) (kh kw s p : Int) (h : Ints w Any a l) :
    Calls Try.prog 5 #[kernelV a l.length c kh kw s p] w fun e w' => e = .returned (.bool true) ∧ Below w.heap.size w w' := by
  have HA := Lib.hid (awake11 (w.alloc (.cells #[.slice a l.length c, .int .i64 kh, .int .i64 kw, .int .i64 s, .int .i64 p] 29)))
  have HC : Hid (∀ w', Below (w.heap.size + 1) (w.alloc (.cells #[.slice a l.length c, .int .i64 kh, .int .i64 kw, .int .i64 s, .int .i64 p] 29)) w' →
      (w'.cell? ⟨w.heap.size, 0, none⟩ = some (.slice a l.length c) ∧ w'.cell? ⟨w.heap.size, 1, none⟩ = some (.int .i64 kh) ∧ w'.cell? ⟨w.heap.size, 2, none⟩ = some (.int .i64 kw) ∧
        w'.cell? ⟨w.heap.size, 3, none⟩ = some (.int .i64 s) ∧ w'.cell? ⟨w.heap.size, 4, none⟩ = some (.int .i64 p)) ∧ Below w.heap.size w w' ∧ w.heap.size + 1 ≤ w'.heap.size) := fun w' hb =>
    ⟨⟨box_cells hb 0 _ rfl, box_cells hb 1 _ rfl, box_cells hb 2 _ rfl, box_cells hb 3 _ rfl, box_cells hb 4 _ rfl⟩,
      ((Below.refl _ w).alloc (Nat.le_refl _) _).trans (hb.mono (by omega)), by have := hb.size; simpa using this⟩
  have HI := Lib.hid h
  have hlen := h.len
  clear h
  go_enter Try.func5, Try.ntmps5
  go_wp2_with fail
  refine HA.out.mono ?_
  rintro e w1 ⟨rfl, hb1⟩
  simp only [World.size_alloc] at hb1
  obtain ⟨⟨c0, c1, c2, c3, c4⟩, hw1, hs1⟩ := HC.out w1 hb1
  have HS := Lib.hid (tSmall c kh kw s p (HI.out.below hw1))
  cases hsm : smallB l kh kw
  · rw [hsm] at HS
    clear hsm
    go_wp2_with fail
    refine HS.out.mono ?_
    rintro e w2 ⟨rfl, hb2⟩
    go_wp2_with fail
    refine (awake11 w2).mono ?_
    rintro e w3 ⟨rfl, hb3⟩
    go_wp2
    go_ret
    exact ⟨rfl, hw1.trans ((hb2.mono hw1.size).trans (hb3.mono (Nat.le_trans hw1.size hb2.size)))⟩
  rw [hsm] at HS
  clear hsm
  go_wp2_with fail
  refine HS.out.mono ?_
  rintro e w2 ⟨rfl, hb2⟩
  have hk2 := hb1.trans (hb2.mono hs1)
  clear c0 c1 c2 c3 c4 hb2 hb1 hs1 HS
  obtain ⟨⟨c0, c1, c2, c3, c4⟩, hw2, hs2⟩ := HC.out w2 hk2
  have HF := Lib.hid (tFew c kh kw s p (HI.out.below hw2))
  cases hfew : fewB l kh kw s p
  · rw [hfew] at HF
    clear hfew
    go_wp2_with fail
    refine HF.out.mono ?_
    rintro e w3 ⟨rfl, hb3⟩
    go_wp2_with fail
    refine (awake11 w3).mono ?_
    rintro e w4 ⟨rfl, hb4⟩
    go_wp2
    go_ret
    exact ⟨rfl, hw2.trans ((hb3.mono hw2.size).trans (hb4.mono (Nat.le_trans hw2.size hb3.size)))⟩
  rw [hfew] at HF
  clear hfew
  go_wp2_with fail
  refine HF.out.mono ?_
  rintro e w3 ⟨rfl, hb3⟩
  have hk3 := hk2.trans (hb3.mono hs2)
  clear c0 c1 c2 c3 c4 hb3 hk2 hs2 HF
  obtain ⟨⟨c0, c1, c2, c3, c4⟩, hw3, hs3⟩ := HC.out w3 hk3
  go_wp2_with fail
  refine (tWin c kh kw s 0 (HI.out.below hw3)).mono ?_
  rcases windowsL_cases l kh kw s 0 with ⟨er, he, hw⟩ | ⟨q, hq, ht, hl, hkh, hkw, hs, hp, hw⟩
  · have HW := Lib.hid hw
    have hne : (er != 0) = true := by rw [bne_iff_ne]; omega
    clear hw
    rintro e w4 ⟨aA, cA, rfl, _, hb4⟩
    rw [HW.out]
    have hB := hw3.trans (hb4.mono hw3.size)
    rcases he with rfl | rfl | rfl
    all_goals
      go_wp2
      go_ret
      exact ⟨rfl, hB⟩
  rintro e w4 ⟨aA, cA, rfl, hA, hb4⟩
  rw [hw] at hA ⊢
  have hk4 := hk3.trans (hb4.mono hs3)
  have hv : validL l = true := by
    cases hv : validL l
    · exfalso
      have : windowsL l kh kw s 0 = ([], 0, 0, 1) := windowsL_arg (by simp [argBad, hv])
      rw [this] at hw
      have h4 := hq.r2.1
      have := congrArg (fun x => x.2.1) hw
      simp at this; omega
    · rfl
  clear c0 c1 c2 c3 c4 hk3 hb4 hs3 hw1 hw2 HA hw
  obtain ⟨⟨c0, c1, c2, c3, c4⟩, hw4, hs4⟩ := HC.out w4 hk4
  obtain ⟨b1, _, _, b4, _⟩ := Win.len_bd hq ht
  have hq1 := hq.c1; have hq2 := hq.h1; have hq3 := hq.w1; have hq4 := hq.kh1; have hq5 := hq.kh2; have hq6 := hq.kw1; have hq7 := hq.kw2
  have hqe := hq.c2; have hqf := hq.h2; have hqg := hq.w2; obtain ⟨hqh, hqh'⟩ := hq.r2; obtain ⟨hqi, hqi'⟩ := hq.q2
  have HP := Lib.hid (show q.p = 0 by omega)
  have HL := Lib.hid hl
  have hl3 : l.length = 3 := by rw [hl]; rfl
  obtain ⟨bb, off, x0, x1, x2, rfl, g0, g1, g2, e0, e1, e2⟩ := HI.out.three hl3
  obtain rfl : x0 = q.C := by rw [hl] at e0; simpa using e0.symm
  obtain rfl : x1 = q.H := by rw [hl] at e1; simpa using e1.symm
  obtain rfl : x2 = q.W := by rw [hl] at e2; simpa using e2.symm
  have h3 : 3 ≤ l.length := by omega
  have hbb := World.block_lt_of_cell? w _ g0
  have HG0 := Lib.hid g0
  have HG1 := Lib.hid g1
  have HG2 := Lib.hid g2
  have hsz := sizeL_win hv hl
  have HSZ := Lib.hid hsz
  subst hkh
  subst hkw
  subst hs
  obtain ⟨u, hu, uC, uH, uW, uk, uw, us, up, hwu⟩ := units_ok hq hv hl
  have HWU := Lib.hid hwu
  obtain ⟨uR, uQ, _, ug⟩ := Win.units hu uk uw us up
  have HUG : Hid (∀ i ch : Nat, i < u.H * u.W → ch < u.C → (u.one (i / u.W) (i % u.W))[ch]? = some ((ch : Int) * (u.H * u.W) + i)) := fun i ch h1 h2 => ug h1 h2
  have hulen : u.all.length = q.H * q.W := by rw [u.all_len, uR, uQ, uH, uW]
  have HUL := Lib.hid hulen
  have HU := Lib.hid (And.intro uC (And.intro uH (And.intro uW (And.intro uR (And.intro uQ (And.intro uk uw))))))
  have hub : u.all.length ≤ 268435456 := by rw [hulen]; exact Nat.mul_le_mul hqf hqg
  have hudec : ((u.all.length : Int) != (q.H : Int) * (q.W : Int)) = false := by rw [hulen]; simp
  have hulz : ((q.H * q.W : Nat) : Int) = (q.H : Int) * q.W := by simp
  have HULZ := Lib.hid hulz
  clear uC uH uW uk uw us up hwu uR uQ ug hulen hulz
  clear hl hp e0 e1 e2 g0 g1 g2 hl3 hsz hv
  have hlen2 : ∀ r cc, (q.one r cc).length = q.C * (q.kh * q.kw) := fun r cc => q.one_len r cc
  have HL2 := Lib.hid hlen2
  clear hlen2
  have hall : ((q.all.length : Int) != (q.R : Int) * (q.Q : Int)) = false := by rw [q.all_len]; simp
  have hpr := prod_bd (a := q.R) (b := q.Q) (A := 16600) (B := 16600) (by omega) (by omega) (by omega) (by omega)
  obtain ⟨hpr1, hpr2⟩ := hpr
  have hm1 := prod_bd (a := q.C) (b := q.kh) (A := 16384) (B := 64) (by omega) (by omega) (by omega) (by omega)
  have hm2 := prod_bd (a := (q.C : Int) * q.kh) (b := q.kw) (A := 1048576) (B := 64) hm1.1 (by omega) (by omega) (by omega)
  obtain ⟨hm1a, hm1b⟩ := hm1
  obtain ⟨hm2a, hm2b⟩ := hm2
  have hm3 : ((q.C * (q.kh * q.kw) : Nat) : Int) = (q.C : Int) * q.kh * q.kw := by simp [Int.mul_assoc]
  have HM3 := Lib.hid hm3
  have hm4 := prod_bd (a := q.H) (b := q.W) (A := 16384) (B := 16384) (by omega) (by omega) (by omega) (by omega)
  obtain ⟨hm4a, hm4b⟩ := hm4
  clear hm3
  go_wp2
  clear hall hpr1 hpr2
  go_loopw [7] (fun i wr => ∃ k : Nat, k ≤ q.all.length ∧ i = .int .i64 k ∧ Below w4.heap.size w4 wr) (fun i _ => q.all.length - (intOf i).toNat)
  case atStart => exact ⟨0, by omega, rfl, Below.refl _ _⟩
  case round =>
    clear c0 c1 c2 c3 c4
    obtain ⟨k, hk, rfl, hbr⟩ := hrel
    obtain ⟨wo, rfl⟩ : ∃ wo : World, wo = wr := ⟨_, rfl⟩
    have hko := hk4.trans (hbr.mono hs4)
    obtain ⟨⟨c0, c1, c2, c3, c4⟩, hwo, hso⟩ := HC.out wo hko
    have g0 := (hwo.cell (p := ⟨bb, off, none⟩) hbb).trans HG0.out
    by_cases hlt : k < q.all.length
    · obtain ⟨y1, o1, l1, a1, k1, rfl, d1, e1, _, f1, bb1, _⟩ := (hA.below hbr).pick hlt
      obtain ⟨_, u1, u2, u3⟩ := q.all_pos hlt
      have E1 : l1 = q.one (k / q.Q) (k % q.Q) := by rw [e1] at u3; cases u3; rfl
      have hll : ((l1.length : Int) != (q.C : Int) * q.kh * q.kw) = false := by rw [E1, HL2.out, HM3.out]; simp
      have HB := Lib.hid (show ∀ x ∈ l1, 0 ≤ x ∧ x < sizeL l from by rw [E1, HSZ.out]; exact hq.bare_bd HP.out u1 u2)
      have HI1 := Lib.hid (show l1.Pairwise (· < ·) from by rw [E1]; exact hq.inc HP.out u1 u2)
      have hlb := f1.len
      have HA' := Lib.hid hA
      clear e1 u1 u2 u3 E1 hA
      go_wp2
      go_quiet (fail)
      clear hll
      go_wp2
      go_loopw [8] (fun i wi => ∃ n : Nat, n ≤ l1.length ∧ i = .int .i64 n ∧ Below wo.heap.size wo wi) (fun i _ => l1.length - (intOf i).toNat)
      case atStart => exact ⟨0, by omega, rfl, below_drewN (Below.refl _ _) _⟩
      case round =>
        clear c0 c1 c2 c3 c4 g0
        obtain ⟨n, hn, rfl, hbi⟩ := hrel
        have d1' := (hbi.cell (p := ⟨y1, o1 + k, none⟩) bb1).trans d1
        have hkw' := hko.trans (hbi.mono hso)
        obtain ⟨⟨c0, _, _, _, _⟩, hwi, hsi⟩ := HC.out wr hkw'
        have HSi := Lib.hid (fun nq => rSize_is c ((HI.out.below hwi).drewN nq) rfl)
        by_cases hltn : n < l1.length
        · obtain ⟨z1, p1, v1, rfl, m1, r1, _, _, _⟩ := (f1.below hbi).pick hltn
          have hv1 := HB.out v1 (List.mem_of_getElem? r1)
          have t1 : decide (v1 < 0) = false := by simp; omega
          have t2 : decide (sizeL l ≤ v1) = false := by simp; omega
          by_cases hn0 : 0 < n
          · obtain ⟨_, _, v2, hz, m2, r2, _, _, _⟩ := (f1.below hbi).pick (show n - 1 < l1.length by omega)
            cases hz
            have hlt' : v2 < v1 := by
              have := List.pairwise_iff_getElem.1 HI1.out (n - 1) n (by omega) hltn (by omega)
              rw [List.getElem?_eq_getElem (by omega)] at r1 r2
              have r1' := Option.some.inj r1
              have r2' := Option.some.inj r2
              rw [r1', r2'] at this; exact this
            have t3 : decide (v1 ≤ v2) = false := by simp; omega
            clear r1 r2 hv1 hlt' f1
            go_wp2
            go_quiet ((go_at_call 24; exact Calls.quiet_of_same (HSi.out _)))
            go_wp2
            go_roundw
            case rel => exact ⟨n + 1, by omega, by go_num, below_drewN hbi _⟩
            case measure => simp [intOf]; omega
          · have t3 : decide (0 < n) = false := by simp; omega
            clear r1 hv1 f1 hn0
            go_wp2
            go_quiet ((go_at_call 24; exact Calls.quiet_of_same (HSi.out _)))
            go_wp2
            go_roundw
            case rel => exact ⟨n + 1, by omega, by go_num, below_drewN hbi _⟩
            case measure => simp [intOf]; omega
        · obtain rfl : n = l1.length := by omega
          go_wp2
          go_roundw
          case rel => exact ⟨k + 1, by omega, by go_num, hbr.trans (hbi.mono hbr.size)⟩
          case measure => simp [intOf]; omega
    · go_wp2_with fail
      refine (tWin c 1 1 1 0 (HI.out.below hwo)).mono ?_
      rintro e w6 ⟨aU, cU, rfl, hU, hb6⟩
      rw [HWU.out] at hU ⊢
      have hk6 := hko.trans (hb6.mono hso)
      clear c0 c1 c2 c3 c4 hb6 g0
      obtain ⟨⟨c0, _, _, _, _⟩, hw6, hs6⟩ := HC.out w6 hk6
      have g1 := (hw6.cell (p := ⟨bb, off + 1, none⟩) hbb).trans HG1.out
      have g2 := (hw6.cell (p := ⟨bb, off + 2, none⟩) hbb).trans HG2.out
      go_wp2_with fail
      go_quiet (fail)
      clear g1 g2
      go_wp2
      go_loopw [14] (fun i wr => ∃ k : Nat, (k : Int) ≤ (q.H : Int) * (q.W : Int) ∧ i = .int .i64 k ∧ Below w6.heap.size w6 wr) (fun i _ => ((q.H : Int) * (q.W : Int) - intOf i).toNat)
      case atStart => exact ⟨0, by omega, rfl, below_drewN (Below.refl _ _) _⟩
      case round =>
        clear c0
        obtain ⟨k, hk, rfl, hbr⟩ := hrel
        obtain ⟨wo, rfl⟩ : ∃ wo : World, wo = wr := ⟨_, rfl⟩
        have hko := hk6.trans (hbr.mono hs6)
        obtain ⟨_, hwo', hso'⟩ := HC.out wo hko
        by_cases hlt : (k : Int) < (q.H : Int) * (q.W : Int)
        · have hltu : k < u.all.length := by rw [HUL.out]; have := HULZ.out; omega
          obtain ⟨y1, o1, l1, a1, k1, rfl, d1, e1, _, f1, bb1, _⟩ := (hU.below hbr).pick hltu
          obtain ⟨_, _, _, u3⟩ := u.all_pos hltu
          have HE : Hid (∀ ch, ch < q.C → l1[ch]? = some ((ch : Int) * ((q.H : Int) * q.W) + k)) := by
            intro ch hch
            obtain ⟨i1, i2, i3, i4, i5, i6, i7⟩ := HU.out
            rw [e1, i5] at u3
            have := Option.some.inj u3
            rw [this]
            rw [i3] 
            have h := HUG.out k ch (by rw [i2, i3]; have := HULZ.out; omega) (by omega)
            rw [i2, i3] at h
            exact h
          have HL1 : Hid (l1.length = q.C) := by
            obtain ⟨i1, i2, i3, i4, i5, i6, i7⟩ := HU.out
            rw [e1] at u3
            have := Option.some.inj u3
            unfold Hid
            rw [this, u.one_len, i1, i6, i7]
            simp
          have hlq : l1.length = q.C := HL1.out
          have hlq1 : l1.length ≤ q.C := by omega
          have hlq2 : q.C ≤ l1.length := by omega
          clear e1 u3 hlq
          go_wp2
          go_loopw [15] (fun i wi => ∃ ch : Nat, ch ≤ q.C ∧ i = .int .i64 ch ∧ Below wo.heap.size wo wi) (fun i _ => q.C - (intOf i).toNat)
          case atStart => exact ⟨0, by omega, rfl, Below.refl _ _⟩
          case round =>
            obtain ⟨ch, hch, rfl, hbi⟩ := hrel
            have d1' := (hbi.cell (p := ⟨y1, o1 + k, none⟩) bb1).trans d1
            have hki := hko.trans (hbi.mono hso')
            obtain ⟨⟨c0, _, _, _, _⟩, hwi, hsi⟩ := HC.out wr hki
            have g0 := (hwi.cell (p := ⟨bb, off, none⟩) hbb).trans HG0.out
            by_cases hltc : ch < q.C
            · obtain ⟨z1, p1, v1, rfl, m1, r1, _, _, _⟩ := (f1.below hbi).pick (show ch < l1.length by omega)
              obtain rfl : v1 = (ch : Int) * ((q.H : Int) * q.W) + k := by
                have := HE.out ch hltc
                rw [r1] at this
                exact Option.some.inj this
              have hpc := prod_bd (a := ch) (b := (q.H : Int) * q.W) (A := 16384) (B := 268435456) (by omega) (by omega) (by omega) (by omega)
              obtain ⟨hpc1, hpc2⟩ := hpc
              clear r1 f1
              go_wp2
              go_roundw
              case rel => exact ⟨ch + 1, by omega, by go_num, hbi⟩
              case measure => simp [intOf]; omega
            · obtain rfl : ch = q.C := by omega
              go_wp2
              go_roundw
              case rel => exact ⟨k + 1, by omega, by go_num, hbr.trans (hbi.mono hbr.size)⟩
              case measure => simp [intOf]; omega
        · go_wp2
          go_ret
          exact ⟨rfl, hw6.trans (hbr.mono hw6.size)⟩

end Go.Proofs.Ytcgpidicegbnoaa

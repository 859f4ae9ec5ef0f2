/-
  The walk of the statement Im2colDifferent.
-/
import Derived.Test.YtcgpidicegbnoaaColF
import Derived.Test.YtcgpidicegbnoaaColJ
import Derived.IntWalk
namespace Go.Proofs.Ytcgpidicegbnoaa
open Go.RowKit

/-- The law's own copy of the layer. -/
structure LBox (w : World) (kind fr o kh kw s p : Int) (aw : Option Addr) (nw cw : Nat) (ab : Option Addr) (nb cb : Nat) (W : World) : Prop where
  blk : W.heap[w.heap.size]? = some (.cells #[.int .i64 kind, .int .i64 fr, .int .i64 o, .int .i64 kh, .int .i64 kw, .int .i64 s, .int .i64 p, .slice aw nw cw, .slice ab nb cb] 44 (0, 0))
  be : Below w.heap.size w W

section
variable {w : World} {kind fr o kh kw s p : Int} {aw : Option Addr} {nw cw : Nat} {ab : Option Addr} {nb cb : Nat} {W V : World}
theorem LBox.start (w : World) (kind fr o kh kw s p : Int) (aw : Option Addr) (nw cw : Nat) (ab : Option Addr) (nb cb : Nat) :
    LBox w kind fr o kh kw s p aw nw cw ab nb cb (w.alloc (.cells #[.int .i64 kind, .int .i64 fr, .int .i64 o, .int .i64 kh, .int .i64 kw, .int .i64 s, .int .i64 p, .slice aw nw cw, .slice ab nb cb] 44)) :=
  ⟨World.alloc_heap_new w _, (Below.refl _ w).alloc (Nat.le_refl _) _⟩
theorem LBox.below (h : LBox w kind fr o kh kw s p aw nw cw ab nb cb W) (hb : Below W.heap.size W V) : LBox w kind fr o kh kw s p aw nw cw ab nb cb V :=
  ⟨(hb.block _ (Array.getElem?_eq_some_iff.1 h.blk).1).trans h.blk, h.be.trans (hb.mono h.be.size)⟩
theorem LBox.setK (h : LBox w kind fr o kh kw s p aw nw cw ab nb cb W) (k : Int) : LBox w k fr o kh kw s p aw nw cw ab nb cb (W.setCell ⟨w.heap.size, 0, none⟩ (.int .i64 k)) :=
  ⟨by simp [World.setCell, Array.getElem?_modify, h.blk], h.be.setCell (p := ⟨w.heap.size, 0, none⟩) (by simp) _⟩
theorem LBox.setP (h : LBox w kind fr o kh kw s p aw nw cw ab nb cb W) (k : Int) : LBox w kind fr o kh kw s k aw nw cw ab nb cb (W.setCell ⟨w.heap.size, 6, none⟩ (.int .i64 k)) :=
  ⟨by simp [World.setCell, Array.getElem?_modify, h.blk], h.be.setCell (p := ⟨w.heap.size, 6, none⟩) (by simp) _⟩
theorem LBox.cells (h : LBox w kind fr o kh kw s p aw nw cw ab nb cb W) :
    (W.cell? ⟨w.heap.size, 0, none⟩ = some (.int .i64 kind) ∧ W.cell? ⟨w.heap.size, 1, none⟩ = some (.int .i64 fr) ∧ W.cell? ⟨w.heap.size, 2, none⟩ = some (.int .i64 o) ∧ W.cell? ⟨w.heap.size, 3, none⟩ = some (.int .i64 kh) ∧
      W.cell? ⟨w.heap.size, 4, none⟩ = some (.int .i64 kw) ∧ W.cell? ⟨w.heap.size, 5, none⟩ = some (.int .i64 s) ∧ W.cell? ⟨w.heap.size, 6, none⟩ = some (.int .i64 p) ∧ W.cell? ⟨w.heap.size, 7, none⟩ = some (.slice aw nw cw) ∧
      W.cell? ⟨w.heap.size, 8, none⟩ = some (.slice ab nb cb)) ∧ W.frozen? ⟨w.heap.size, 0, none⟩ = false ∧ W.frozen? ⟨w.heap.size, 6, none⟩ = false := by
  simp [World.cell?, World.frozen?, h.blk]
end

set_option maxRecDepth 100000 in
set_option maxHeartbeats 3200000 in
theorem lawIm2colDifferent {w : World} {a : Option Addr} {l : List Int} (c : Nat) (kind fr o kh kw s p : Int) (aw : Option Addr) (nw cw : Nat) (ab : Option Addr) (nb cb : Nat) (h : Ints w Any a l) :
    Calls Try.prog 13 #[.slice a l.length c, layerV kind fr o kh kw s p aw nw cw ab nb cb] w fun e w' => e = .returned (.bool true) ∧ Below w.heap.size w w' := by
  have HA := Lib.hid (awake53 (w.alloc (.cells #[.int .i64 kind, .int .i64 fr, .int .i64 o, .int .i64 kh, .int .i64 kw, .int .i64 s, .int .i64 p, .slice aw nw cw, .slice ab nb cb] 44)))
  have H0 := Lib.hid (LBox.start w kind fr o kh kw s p aw nw cw ab nb cb)
  have HI := Lib.hid h
  have hlen := h.len
  clear h
  go_enter Try.func13, Try.ntmps13
  go_wp2_with fail
  refine HA.out.mono ?_
  rintro e w1 ⟨rfl, hb1⟩
  have H1 := Lib.hid (H0.out.below hb1)
  clear hb1 H0 HA
  obtain ⟨⟨c0, c1, c2, c3, c4, c5, c6, c7, c8⟩, _, _⟩ := H1.out.cells
  have HS := Lib.hid (small53 c kind fr o kh kw s p aw nw cw ab nb cb (HI.out.below H1.out.be))
  go_wp2_with fail
  refine HS.out.mono ?_
  rintro e w2 ⟨⟨t, rfl⟩, hb2⟩
  have H2 := Lib.hid (H1.out.below hb2)
  clear hb2 HS H1 c0 c1 c2 c3 c4 c5 c6 c7 c8
  cases t
  · go_wp2
    go_ret
    exact ⟨rfl, H2.out.be⟩
  obtain ⟨⟨c0, c1, c2, c3, c4, c5, c6, c7, c8⟩, f0, f6⟩ := H2.out.cells
  have H3 := Lib.hid ((H2.out.setP 0).setK 2)
  have hsz2 : w.heap.size < w2.heap.size := (Array.getElem?_eq_some_iff.1 H2.out.blk).1
  go_wp2_with fail
  refine (tGather c 2 fr o kh kw s 0 aw nw cw ab nb cb (HI.out.below H3.out.be)).mono ?_
  rintro e w3 ⟨aA, cA, rfl, hA, hb3⟩
  have H4 := Lib.hid (H3.out.below hb3)
  clear hb3 H3 H2 c0 c1 c2 c3 c4 c5 c6 c7 c8 f0 f6
  obtain ⟨⟨c0, c1, c2, c3, c4, c5, c6, c7, c8⟩, f0, f6⟩ := H4.out.cells
  have H5 := Lib.hid (H4.out.setK 4)
  have HAa := Lib.hid (hA.mono (F' := fun b => b ≠ w.heap.size) (fun b _ hb => by simp [World.setCell] at hb; omega))
  clear hA
  rcases windowsL_cases l kh kw s 0 with ⟨er, he, hw⟩ | ⟨q, hq, ht, hl, hkh, hkw, hs, hp, hw⟩
  · rw [gatherL_err hw (by omega)]
    have HP := Lib.hid (poolL_err (kind := 4) (.inr rfl) hw (by omega))
    clear hw
    go_wp2_with fail
    refine (tPool c 4 fr o kh kw s 0 aw nw cw ab nb cb (HI.out.below H5.out.be)).mono ?_
    rw [HP.out]
    rintro e w6 ⟨aB, cB, rfl, _, hb6⟩
    have hB := (H5.out.below hb6).be
    have hne : (er != 0) = true := by rw [bne_iff_ne]; omega
    go_wp2
    go_ret
    exact ⟨rfl, hB⟩
  have hq1 := hq.kh1; have hq2 := hq.kh2; have hq3 := hq.kw1; have hq4 := hq.kw2; have hq5 := hq.c1; have hq6 := hq.h1; have hq7 := hq.w1
  have hqe := hq.c2; have hqf := hq.h2; have hqg := hq.w2
  obtain ⟨b1, b2, b3, b4, b5⟩ := Win.len_bd hq ht
  have HP := Lib.hid (poolL_ok (kind := 4) (.inr rfl) hl hkh hkw rfl hw)
  have HG := Lib.hid (gatherL_ok hq hw)
  have hp0 : q.p = 0 := by omega
  have hAl := gather_len hq
  have hBl := pool_len (q := q)
  have hM := q.one_len 0 0
  have HRise : Hid (∀ c i k, c < q.all.length → i < (q.one 0 0).length → k < i → ∃ x y : Int, (gatherOf q.all)[i * q.all.length + c]? = some x ∧ (gatherOf q.all)[k * q.all.length + c]? = some y ∧ 0 ≤ x ∧ x < 16384 ∧ y < x ∧ 0 ≤ y) :=
    fun c i k h1 h2 h3 => gather_rise hq hp0 h1 h2 h3
  have HGrp : Hid (∀ g t u, g < q.C * q.all.length → t < q.kh * q.kw → u < t → ∃ x y : Int, (poolOf q.all q.C (q.kh * q.kw))[g * (q.kh * q.kw) + t]? = some x ∧ (poolOf q.all q.C (q.kh * q.kw))[g * (q.kh * q.kw) + u]? = some y ∧
      0 ≤ x ∧ x < 16384 ∧ 0 ≤ y ∧ y < x ∧ x / ((q.H : Int) * q.W) = y / ((q.H : Int) * q.W)) := fun g t u h1 h2 h3 => pool_rise hq hp0 h1 h2 h3
  have hl3 : l.length = 3 := by rw [hl]; rfl
  obtain ⟨bb, off, x0, x1, x2, rfl, g0, g1, g2, e0, e1, e2⟩ := HI.out.three hl3
  obtain rfl : x0 = q.C := by rw [hl] at e0; simpa using e0.symm
  obtain rfl : x1 = q.H := by rw [hl] at e1; simpa using e1.symm
  obtain rfl : x2 = q.W := by rw [hl] at e2; simpa using e2.symm
  have hbb := World.block_lt_of_cell? w _ g0
  have h3 : 3 ≤ l.length := by omega
  have HG1 := Lib.hid g1
  have HG2 := Lib.hid g2
  have hHW := prod_bd (a := (q.H : Int)) (b := q.W) (A := 16384) (B := 16384) (by omega) (by omega) (by omega) (by omega)
  obtain ⟨hHW1, hHW2⟩ := hHW
  have hHW0 : (0 : Int) < (q.H : Int) * q.W := Int.mul_pos (by omega) (by omega)
  have hn1 : 1 ≤ q.kh * q.kw := Nat.mul_pos hq1 hq3
  have hn2 : q.kh * q.kw ≤ 4096 := Nat.mul_le_mul hq2 hq4
  have hBA : (poolOf q.all q.C (q.kh * q.kw)).length = (gatherOf q.all).length := by
    rw [hAl, hBl, hM, Nat.mul_assoc, Nat.mul_comm q.all.length]
  have hBg : (poolOf q.all q.C (q.kh * q.kw)).length = q.C * q.all.length * (q.kh * q.kw) := by rw [hBl, Nat.mul_assoc]
  have hAt : (gatherOf q.all).length ≤ 262144 := by rw [hAl, Nat.mul_comm, b3]; exact ht
  generalize gatherOf q.all = A at *
  generalize poolOf q.all q.C (q.kh * q.kw) = B at *
  generalize (q.one 0 0).length = M at *
  generalize q.all.length = N at *
  generalize q.kh * q.kw = n at *
  generalize hgc : q.C * N = G at *
  have HGc := Lib.hid hgc
  have HM := Lib.hid hM
  have HAl := Lib.hid hAl
  have HBg := Lib.hid hBg
  have HBA := Lib.hid hBA
  have hC4 := H4.out
  clear hM hgc hBl hAl hBg hBA g0 g1 g2 e0 e1 e2 hl3 hl hw ht hp0 hp hkh hkw hs b3 H4 hC4
  rw [HG.out]
  have HAx : Hid (Ints w3 (fun b => b ≠ w.heap.size) aA A) := by have := HAa.out; rw [HG.out] at this; exact this
  clear HAa
  go_wp2_with fail
  refine (tPool c 4 fr o kh kw s 0 aw nw cw ab nb cb (HI.out.below H5.out.be)).mono ?_
  rw [HP.out]
  rintro e w6 ⟨aB, cB, rfl, hB, hb6⟩
  have H6 := Lib.hid (H5.out.below hb6)
  have HA6 : Hid (Ints w6 (fun b => b ≠ w.heap.size) aA A) := (HAx.out.frame (by simp [World.setCell]) (fun b hb hs => Below.heap_setCell _ _ _ _ hb)).below hb6
  have HB6 := Lib.hid hB
  clear hB hb6 H5 HAx c0 c1 c2 c3 c4 c5 c6 c7 c8 f0 f6
  have hBM : ((A.length : Int) != (M : Int) * (N : Int)) = false := by rw [HAl.out]; simp
  have hBN : (((B.length : Int) % (n : Int)) != 0) = false := by rw [HBg.out]; simp
  have hBZ : ((n : Int) == 0) = false := by rw [beq_eq_false_iff_ne]; omega
  have hBZ2 : ¬ n = 0 := by omega
  have hBT : (B.length : Int).tmod (n : Int) = (B.length : Int) % (n : Int) := Int.tmod_eq_emod_of_nonneg (by omega)
  have hBAx : ((B.length : Int) != (A.length : Int)) = false := by rw [HBA.out]; simp
  have hn0 : decide ((n : Int) < 1) = false := by simp; omega
  have hMN := prod_bd (a := (M : Int)) (b := N) (A := 262144) (B := 262144) (by omega) (by omega) (by omega) (by omega)
  obtain ⟨hMN1, hMN2⟩ := hMN
  go_wp2
  clear hBM hBN hBZ hBT hBAx hn0
  go_loopw [12] (fun i wr => ∃ k : Nat, k ≤ N ∧ i = .int .i64 k ∧ Below w6.heap.size w6 wr) (fun i _ => N - (intOf i).toNat)
  case atStart => exact ⟨0, by omega, rfl, Below.refl _ _⟩
  case round =>
    obtain ⟨cc, hcc, rfl, hbr⟩ := hrel
    obtain ⟨wo, rfl⟩ : ∃ wo : World, wo = wr := ⟨_, rfl⟩
    by_cases hltc : cc < N
    · go_wp2
      go_loopw [13] (fun i wi => ∃ k : Nat, k ≤ M ∧ i = .int .i64 k ∧ Below wo.heap.size wo wi) (fun i _ => M - (intOf i).toNat)
      case atStart => exact ⟨0, by omega, rfl, Below.refl _ _⟩
      case round =>
        obtain ⟨ii, hii, rfl, hbi⟩ := hrel
        obtain ⟨wp, rfl⟩ : ∃ wp : World, wp = wr := ⟨_, rfl⟩
        by_cases hlti : ii < M
        · go_wp2
          go_loopw [14] (fun i wk => ∃ k : Nat, k ≤ ii ∧ i = .int .i64 k ∧ Below wp.heap.size wp wk) (fun i _ => ii - (intOf i).toNat)
          case atStart => exact ⟨0, by omega, rfl, Below.refl _ _⟩
          case round =>
            obtain ⟨kk, hkk, rfl, hbk⟩ := hrel
            by_cases hltk : kk < ii
            · obtain ⟨x, y, e1, e2, p1, p2, p3, p4⟩ := HRise.out cc ii kk hltc hlti hltk
              have hI1 := ((HA6.out.below hbr).below hbi).below hbk
              have l1 : ii * N + cc < A.length := (List.getElem?_eq_some_iff.1 e1).1
              have l2 : kk * N + cc < A.length := (List.getElem?_eq_some_iff.1 e2).1
              obtain ⟨z1, o1, d1, rfl, m1, r1, _, _, _⟩ := hI1.pick l1
              obtain ⟨z2, o2, d2, e0, m2, r2, _, _, _⟩ := hI1.pick l2
              obtain ⟨rfl, rfl⟩ : z1 = z2 ∧ o1 = o2 := by cases e0; exact ⟨rfl, rfl⟩
              obtain rfl : x = d1 := by rw [e1] at r1; exact Option.some.inj r1
              obtain rfl : y = d2 := by rw [e2] at r2; exact Option.some.inj r2
              obtain ⟨u1, u2⟩ := prod_bd (a := (ii : Int)) (b := N) (A := 262144) (B := 262144) (by omega) (by omega) (by omega) (by omega)
              obtain ⟨u3, u4⟩ := prod_bd (a := (kk : Int)) (b := N) (A := 262144) (B := 262144) (by omega) (by omega) (by omega) (by omega)
              have v1 : ((ii : Int) * (N : Int) + (cc : Int)).toNat = ii * N + cc := by
                have : ((ii * N + cc : Nat) : Int) = (ii : Int) * (N : Int) + (cc : Int) := by simp
                omega
              have v2 : ((kk : Int) * (N : Int) + (cc : Int)).toNat = kk * N + cc := by
                have : ((kk * N + cc : Nat) : Int) = (kk : Int) * (N : Int) + (cc : Int) := by simp
                omega
              have v3 : (ii : Int) * (N : Int) + (cc : Int) < (A.length : Int) := by
                have : ((ii * N + cc : Nat) : Int) = (ii : Int) * (N : Int) + (cc : Int) := by simp
                omega
              have v4 : (kk : Int) * (N : Int) + (cc : Int) < (A.length : Int) := by
                have : ((kk * N + cc : Nat) : Int) = (kk : Int) * (N : Int) + (cc : Int) := by simp
                omega
              have v5 : 0 ≤ (ii : Int) * (N : Int) + (cc : Int) := by omega
              have v6 : 0 ≤ (kk : Int) * (N : Int) + (cc : Int) := by omega
              have t1 : (x == y) = false := by rw [beq_eq_false_iff_ne]; omega
              have t2 : decide (x < 0) = false := by simp; omega
              have w1' := IntWalk.i64_in ((ii : Int) * (N : Int)) (by omega)
              have w2' := IntWalk.i64_in ((kk : Int) * (N : Int)) (by omega)
              have w3' := IntWalk.i64_in ((ii : Int) * (N : Int) + (cc : Int)) (by omega)
              have w4' := IntWalk.i64_in ((kk : Int) * (N : Int) + (cc : Int)) (by omega)
              clear e1 e2 r1 r2 e0 p4 hI1 p1 p3
              go_wp2
              go_quiet (fail)
              clear v1 v2 v3 v4 v5 v6 w1' w2' w3' w4' t1 t2
              go_wp2
              go_roundw
              case rel => exact ⟨kk + 1, by omega, by go_num, below_drewN hbk _⟩
              case measure => simp [intOf]; omega
            · obtain rfl : kk = ii := by omega
              go_wp2
              go_roundw
              case rel => exact ⟨kk + 1, by omega, by go_num, hbi.trans (hbk.mono hbi.size)⟩
              case measure => simp [intOf]; omega
        · obtain rfl : ii = M := by omega
          go_wp2
          go_roundw
          case rel => exact ⟨cc + 1, by omega, by go_num, hbr.trans (hbi.mono hbr.size)⟩
          case measure => simp [intOf]; omega
    · obtain rfl : cc = N := by omega
      have hbr6 := hbr
      clear hbr
      go_wp2
      go_loopw [15] (fun i wr => ∃ j gg : Nat, j ≤ G ∧ Hid (gg = j * n) ∧ i = .int .i64 gg ∧ Below w6.heap.size w6 wr) (fun i _ => B.length - (intOf i).toNat)
      case atStart => exact ⟨0, 0, by omega, (Nat.zero_mul n).symm, rfl, hbr6⟩
      case round =>
        clear hbr6
        obtain ⟨j, gg, hj, hgg, rfl, hbr⟩ := hrel
        obtain ⟨wo, rfl⟩ : ∃ wo : World, wo = wr := ⟨_, rfl⟩
        by_cases hltj : j < G
        · have hgn : gg + n ≤ B.length := by
            have h1 := hgg.out
            have h2 := HBg.out
            have h3 : (j + 1) * n ≤ G * n := Nat.mul_le_mul_right _ hltj
            rw [Nat.succ_mul] at h3
            omega
          have hgl : gg < B.length := by omega
          have hgb : gg + n ≤ 262144 := by have := HBA.out; omega
          go_wp2
          go_loopw [16] (fun i wi => ∃ ii : Nat, gg ≤ ii ∧ ii ≤ gg + n ∧ i = .int .i64 ii ∧ Below wo.heap.size wo wi) (fun i _ => gg + n - (intOf i).toNat)
          case atStart => exact ⟨gg, by omega, by omega, rfl, Below.refl _ _⟩
          case round =>
            obtain ⟨ii, hi1, hi2, rfl, hbi⟩ := hrel
            obtain ⟨wp, rfl⟩ : ∃ wp : World, wp = wr := ⟨_, rfl⟩
            by_cases hlti : ii < gg + n
            · have hlti' : decide ((ii : Int) < (gg : Int) + (n : Int)) = true := by simp; omega
              go_wp2
              go_loopw [17] (fun i wk => ∃ kk : Nat, gg ≤ kk ∧ kk ≤ ii ∧ i = .int .i64 kk ∧ Below wp.heap.size wp wk) (fun i _ => ii - (intOf i).toNat)
              case atStart => exact ⟨gg, by omega, by omega, rfl, Below.refl _ _⟩
              case round =>
                obtain ⟨kk, hk1, hk2, rfl, hbk⟩ := hrel
                by_cases hltk : kk < ii
                · obtain ⟨x, y, e1, e2, p1, p2, p3, p4, p5⟩ := HGrp.out j (ii - gg) (kk - gg) (by have := HGc.out; omega) (by omega) (by omega)
                  rw [← hgg.out, show gg + (ii - gg) = ii by omega] at e1
                  rw [← hgg.out, show gg + (kk - gg) = kk by omega] at e2
                  have hI1 := ((HB6.out.below hbr).below hbi).below hbk
                  have l1 : ii < B.length := (List.getElem?_eq_some_iff.1 e1).1
                  have l2 : kk < B.length := (List.getElem?_eq_some_iff.1 e2).1
                  obtain ⟨z1, o1, d1, rfl, m1, r1, _, _, _⟩ := hI1.pick l1
                  obtain ⟨z2, o2, d2, e0, m2, r2, _, _, _⟩ := hI1.pick l2
                  obtain ⟨rfl, rfl⟩ : z1 = z2 ∧ o1 = o2 := by cases e0; exact ⟨rfl, rfl⟩
                  obtain rfl : x = d1 := by rw [e1] at r1; exact Option.some.inj r1
                  obtain rfl : y = d2 := by rw [e2] at r2; exact Option.some.inj r2
                  have HBe := H6.out.be.trans (((hbr.trans (hbi.mono hbr.size)).trans (hbk.mono (Nat.le_trans hbr.size hbi.size))).mono H6.out.be.size)
                  have g1 := (HBe.cell (p := ⟨bb, off + 1, none⟩) hbb).trans HG1.out
                  have g2 := (HBe.cell (p := ⟨bb, off + 2, none⟩) hbb).trans HG2.out
                  have t1 : (x == y) = false := by rw [beq_eq_false_iff_ne]; omega
                  have hz0 : (((q.H : Int) * (q.W : Int)) == 0) = false := by rw [beq_eq_false_iff_ne]; omega
                  have hz1 : ¬ (q.H : Int) * (q.W : Int) = 0 := by omega
                  have hw0 := IntWalk.i64_in ((q.H : Int) * (q.W : Int)) (by omega)
                  have d1 : x.tdiv ((q.H : Int) * (q.W : Int)) = x / ((q.H : Int) * (q.W : Int)) := Int.tdiv_eq_ediv_of_nonneg p1
                  have d2 : y.tdiv ((q.H : Int) * (q.W : Int)) = y / ((q.H : Int) * (q.W : Int)) := Int.tdiv_eq_ediv_of_nonneg p3
                  have d3 : 0 ≤ y / ((q.H : Int) * (q.W : Int)) := Int.ediv_nonneg p3 hHW1
                  have d4 : y / ((q.H : Int) * (q.W : Int)) ≤ y := Int.ediv_le_self _ p3
                  rw [p5] at d1
                  generalize y / ((q.H : Int) * (q.W : Int)) = dd at *
                  have hw1 := IntWalk.i64_in dd (by omega)
                  clear e1 e2 r1 r2 e0 p4 hI1 p1 p3 p5 hlti'
                  go_wp2
                  go_quiet (fail)
                  clear t1 hz0 hz1 hw0 d1 d2 d3 d4 hw1 g1 g2
                  go_wp2
                  go_roundw
                  case rel => exact ⟨kk + 1, by omega, by omega, by go_num, below_drewN hbk _⟩
                  case measure => simp [intOf]; omega
                · obtain rfl : kk = ii := by omega
                  go_wp2
                  go_roundw
                  case rel => exact ⟨kk + 1, by omega, by omega, by go_num, hbi.trans (hbk.mono hbi.size)⟩
                  case measure => simp [intOf]; omega
            · have hge : decide ((ii : Int) < (gg : Int) + (n : Int)) = false := by simp; omega
              go_wp2
              go_roundw
              case rel => exact ⟨j + 1, gg + n, hltj, by have := hgg.out; unfold Hid; rw [Nat.succ_mul]; omega, by go_num, hbr.trans (hbi.mono hbr.size)⟩
              case measure => simp [intOf]; omega
        · have hge : ¬ gg < B.length := by
            obtain rfl : j = G := by omega
            have := hgg.out; have := HBg.out; omega
          go_wp2
          go_ret
          exact ⟨rfl, H6.out.be.trans (hbr.mono H6.out.be.size)⟩

end Go.Proofs.Ytcgpidicegbnoaa

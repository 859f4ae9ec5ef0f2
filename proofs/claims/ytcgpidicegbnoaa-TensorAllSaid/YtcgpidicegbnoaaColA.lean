/-
  The walk of im2col.Gather.
-/
import Derived.Test.YtcgpidicegbnoaaColSpec
namespace Go.Proofs.Ytcgpidicegbnoaa
open Go.RowKit

set_option maxRecDepth 100000 in
set_option maxHeartbeats 3200000 in
theorem tGather {w : World} {F : Nat → Prop} {a : Option Addr} {l : List Int} (ca : Nat) (kind fr o kh kw s p : Int) (aw : Option Addr) (nw cw : Nat) (ab : Option Addr) (nb cb : Nat) (h : Ints w F a l) :
    Calls Try.prog 33 #[.slice a l.length ca, layerV kind fr o kh kw s p aw nw cw ab nb cb] w (GatherPost w (gatherL l kind kh kw s p)) := by
  have h1 := h.below ((Below.refl _ w).alloc (Nat.le_refl _) (.cells #[.int .i64 kind, .int .i64 fr, .int .i64 o, .int .i64 kh, .int .i64 kw, .int .i64 s, .int .i64 p, .slice aw nw cw, .slice ab nb cb] 44))
  have HZ := Lib.hid (tWin ca kh kw s p h1)
  clear h h1
  by_cases hk : kind = 2
  · subst hk
    rcases windowsL_cases l kh kw s p with ⟨er, he, hw⟩ | ⟨q, hq, ht, hl, hkh, hkw, hs, hp, hw⟩
    · have HG := Lib.hid (gatherL_err hw (by omega))
      have HW := Lib.hid hw
      have hne : (er != 0) = true := by rw [bne_iff_ne]; omega
      clear hw he
      go_enter Try.func33, Try.ntmps33
      go_wp2_with fail
      refine HZ.out.mono ?_
      rintro e w2 ⟨a2, c2, rfl, _, hb⟩
      rw [HW.out]
      go_wp2
      refine bodyPost_ret (results_tmp4 rfl _ _ _) rfl ?_
      exact gatherPost_err HG.out (((Below.refl _ w).alloc (Nat.le_refl _) _).trans (hb.mono (by simp)))
    · have HG := Lib.hid (gatherL_ok hq hw)
      have HW := Lib.hid hw
      obtain ⟨b1, b2, b3, b4, b5⟩ := Win.len_bd hq ht
      have HL := Lib.hid (gather_len hq)
      have hgl : (gatherOf q.all).length ≤ 262144 := by rw [HL.out, Nat.mul_comm, b3]; exact ht
      have hpr := prod_bd (a := (q.one 0 0).length) (b := q.all.length) (A := 262144) (B := 262144) (by omega) (by omega) (by omega) (by omega)
      obtain ⟨hpr1, hpr2⟩ := hpr
      have hcast : ((gatherOf q.all).length : Int) = ((q.one 0 0).length : Int) * (q.all.length : Int) := by rw [HL.out]; simp
      have HCast := Lib.hid hcast
      have HF := Lib.hid hq.first
      clear hw ht hl hkh hkw hs hp b3 hcast
      obtain ⟨i0, hi, hz0, hz1, hz2⟩ := info_parts Try.info3
      go_enter Try.func33, Try.ntmps33
      go_wp2_with fail
      refine HZ.out.mono ?_
      rintro e w2 ⟨a2, c2, rfl, hI, hb⟩
      rw [HW.out] at hI ⊢
      have hB2 : Below w.heap.size w w2 := ((Below.refl _ w).alloc (Nat.le_refl _) _).trans (hb.mono (by simp))
      obtain ⟨bb, off, l0, a0, k0, rfl, hc0, e0, _, _, hbb, _⟩ := hI.pick (k := 0) (show 0 < q.all.length by omega)
      obtain rfl : l0 = q.one 0 0 := by rw [HF.out] at e0; cases e0; rfl
      have hc0' : w2.cell? ⟨bb, off, none⟩ = some (.slice a0 (q.one 0 0).length k0) := hc0
      clear hc0 e0 hb
      have HI := Lib.hid hI
      clear hI
      go_wp2_with (at_make; refine wpList_make_full _ rfl _ _ 22 rfl w2.heap.size 3 i0 (.int .i64 0) 1 Try.underlying22 hi hz0 hz1 _ _ _ _ (gatherOf q.all).length rfl rfl HCast.out.symm HCast.out.symm ?b2 ?b3 (Nat.le_refl _) ?_)
      case b2 => rw [hz2]; omega
      case b3 => unfold maxLen; omega
      intro w3 hown0 hgrow0
      have HO : Hid (w3.ownsRow w2.heap.size 3 1 (.slice (some ⟨w2.heap.size, 0, none⟩) (gatherOf q.all).length (gatherOf q.all).length) (gatherOf q.all).length ((fillRow (gatherOf q.all) 0).map (Value.int .i64))) := by
        have e : (madeCells #[Value.int IntKind.i64 0] (gatherOf q.all).length).toList = (fillRow (gatherOf q.all) 0).map (Value.int .i64) := by
          rw [fillRow_zero]; simp [toList_madeCells_one]
        unfold Hid
        rw [← e]; simpa [Value.cells] using hown0
      have hB3 : Below w2.heap.size w2 w3 := (Below.refl _ _).grown hgrow0 (Nat.le_refl _) (fun k h => by cases h)
      clear hown0 hgrow0 hz0 hz1 hz2 hi hc0'
      go_wp2
      go_loopw [49] (fun j wr => ∃ r : Nat, r ≤ (q.one 0 0).length ∧ j = .int .i64 r ∧ Hid (wr.ownsRow w2.heap.size 3 1 (.slice (some ⟨w2.heap.size, 0, none⟩) (gatherOf q.all).length (gatherOf q.all).length) (gatherOf q.all).length ((fillRow (gatherOf q.all) (r * q.all.length)).map (Value.int .i64))) ∧ Below w2.heap.size w2 wr)
        (fun j _ => (q.one 0 0).length - (intOf j).toNat)
      case atStart => exact ⟨0, Nat.zero_le _, rfl, by rw [Nat.zero_mul]; exact HO, hB3⟩
      case round =>
        obtain ⟨r, hr, rfl, hO, hBr⟩ := hrel
        by_cases hlt : r < (q.one 0 0).length
        · go_wp2
          go_loopw [53] (fun j wi => ∃ c : Nat, c ≤ q.all.length ∧ j = .int .i64 c ∧ Hid (wi.ownsRow w2.heap.size 3 1 (.slice (some ⟨w2.heap.size, 0, none⟩) (gatherOf q.all).length (gatherOf q.all).length) (gatherOf q.all).length ((fillRow (gatherOf q.all) (r * q.all.length + c)).map (Value.int .i64))) ∧ Below w2.heap.size w2 wi)
            (fun j _ => q.all.length - (intOf j).toNat)
          case atStart => exact ⟨0, Nat.zero_le _, rfl, hO, hBr⟩
          case round =>
            clear hO hBr
            obtain ⟨c, hc, rfl, hO, hBr⟩ := hrel
            by_cases hltc : c < q.all.length
            · obtain ⟨y1, o1, l1, a1, k1, hey, d1, e1, _, f1, _, _⟩ := (HI.out.below hBr).pick hltc
              obtain ⟨rfl, rfl⟩ : bb = y1 ∧ off = o1 := by cases hey; exact ⟨rfl, rfl⟩
              have hl1 := all_one_len q e1
              obtain ⟨z1, p1, v1, rfl, m1, r1, _, _, _⟩ := f1.pick (show r < l1.length by omega)
              have hg := gather_get hq hlt hltc e1 r1
              have hidx : r * q.all.length + c < (gatherOf q.all).length := (List.getElem?_eq_some_iff.1 hg).1
              have hcell : wr.cell? ⟨w2.heap.size, r * q.all.length + c, none⟩ = ((fillRow (gatherOf q.all) (r * q.all.length + c)).map (Value.int .i64))[r * q.all.length + c]? := hO.out.cellAt _ (by omega)
              obtain ⟨z, hz⟩ : ∃ z, ((fillRow (gatherOf q.all) (r * q.all.length + c)).map (Value.int .i64))[r * q.all.length + c]? = some z := ⟨_, List.getElem?_eq_getElem (by simp; rw [fillRow_len _ (by omega)]; exact hidx)⟩
              rw [hz] at hcell
              have hfr : wr.frozen? ⟨w2.heap.size, r * q.all.length + c, none⟩ = false := hO.out.frozenAt _
              have HST := Lib.hid (hO.out.stored (r * q.all.length + c) (.int .i64 v1))
              have HGG := Lib.hid hg
              have hrc : (0 : Int) ≤ (r : Int) * (q.all.length : Int) ∧ (r : Int) * (q.all.length : Int) ≤ 262144 * 262144 := prod_bd (by omega) (by omega) (by omega) (by omega)
              obtain ⟨hrc1, hrc2⟩ := hrc
              have hcst : ((r : Int) * (q.all.length : Int) + (c : Int)).toNat = r * q.all.length + c := by
                have : ((r * q.all.length + c : Nat) : Int) = (r : Int) * (q.all.length : Int) + (c : Int) := by simp
                omega
              have hlti : (r : Int) * (q.all.length : Int) + (c : Int) < ((gatherOf q.all).length : Int) := by
                have : ((r * q.all.length + c : Nat) : Int) = (r : Int) * (q.all.length : Int) + (c : Int) := by simp
                omega
              have hrl : r < l1.length := by omega
              clear hz hg e1 r1 hl1 f1 hey
              go_wp2
              go_roundw
              case rel =>
                refine ⟨c + 1, by omega, by go_num, ?_, hBr.setCell (Nat.le_refl _) _⟩
                have := HST.out.1
                rw [← List.map_set, fillRow_set HGG.out] at this
                exact this
              case measure => simp [intOf]; omega
            · obtain rfl : c = q.all.length := by omega
              go_wp2
              go_roundw
              case rel => exact ⟨r + 1, by omega, by go_num, by rw [Nat.succ_mul]; exact hO, hBr⟩
              case measure => simp [intOf]; omega
        · obtain rfl : r = (q.one 0 0).length := by omega
          go_wp2
          refine bodyPost_ret (results_tmp4 rfl _ _ _) rfl ?_
          have ho := hO.out
          rw [← HL.out, fillRow_all] at ho
          obtain ⟨a', c', hv', hI'⟩ := Ints.own ho (fun x hx => by have := gather_wf hq x hx; omega) (by omega)
          unfold GatherPost
          rw [HG.out]
          exact ⟨a', c', by rw [← hv']; rfl, hI'.mono (fun b _ hb => by simp [Value.ownBlock] at hb; have := hB2.size; omega), hB2.trans (hBr.mono hB2.size)⟩
  · have HG := Lib.hid (gatherL_kind (l := l) (kh := kh) (kw := kw) (s := s) (p := p) hk)
    have hne : (kind != 2) = true := by rw [bne_iff_ne]; exact hk
    go_enter Try.func33, Try.ntmps33
    go_wp2
    refine bodyPost_ret (results_tmp4 rfl _ _ _) rfl ?_
    exact gatherPost_err HG.out ((Below.refl _ w).alloc (Nat.le_refl _) _)

end Go.Proofs.Ytcgpidicegbnoaa

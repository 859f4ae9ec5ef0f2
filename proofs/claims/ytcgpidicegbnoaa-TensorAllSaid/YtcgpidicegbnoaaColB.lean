/-
  The walk of the reference's Gather (layer 53).
-/
import Derived.Test.YtcgpidicegbnoaaColA
namespace Go.Proofs.Ytcgpidicegbnoaa
open Go.RowKit

set_option maxRecDepth 100000 in
set_option maxHeartbeats 3200000 in
theorem rGather {w : World} {F : Nat → Prop} {a : Option Addr} {l : List Int} (ca : Nat) (kind fr o kh kw s p : Int) (aw : Option Addr) (nw cw : Nat) (ab : Option Addr) (nb cb : Nat) (h : Ints w F a l) :
    Calls Try.prog 34 #[.slice a l.length ca, layerV kind fr o kh kw s p aw nw cw ab nb cb] w (GatherPost w (gatherL l kind kh kw s p)) := by
  have h1 := h.below ((Below.refl _ w).alloc (Nat.le_refl _) (.cells #[.int .i64 kind, .int .i64 fr, .int .i64 o, .int .i64 kh, .int .i64 kw, .int .i64 s, .int .i64 p, .slice aw nw cw, .slice ab nb cb] 44))
  have HZ := Lib.hid (rWin ca kh kw s p h1)
  clear h h1
  by_cases hk : kind = 2
  · subst hk
    rcases windowsL_cases l kh kw s p with ⟨er, he, hw⟩ | ⟨q, hq, ht, hl, hkh, hkw, hs, hp, hw⟩
    · have HG := Lib.hid (gatherL_err hw (by omega))
      have HW := Lib.hid hw
      have hne : (er != 0) = true := by rw [bne_iff_ne]; omega
      clear hw he
      go_enter Try.func34, Try.ntmps34
      go_wp2_with fail
      refine HZ.out.mono ?_
      rintro e w2 ⟨a2, c2, rfl, _, hb⟩
      rw [HW.out]
      go_wp2
      refine bodyPost_ret (results_tmp4 rfl _ _ _) rfl ?_
      exact gatherPost_err HG.out (((Below.refl _ w).alloc (Nat.le_refl _) _).trans (hb.mono (by simp)))
    · have HG := Lib.hid (gatherL_ok hq hw)
      have HW := Lib.hid hw
      obtain ⟨b1, b2, b3, b4, b5⟩ := Win.len_bd hq ht
      have HL := Lib.hid (gather_len hq)
      have hgl : (gatherOf q.all).length ≤ 262144 := by rw [HL.out, Nat.mul_comm, b3]; exact ht
      have hpr := prod_bd (a := (q.one 0 0).length) (b := q.all.length) (A := 262144) (B := 262144) (by omega) (by omega) (by omega) (by omega)
      obtain ⟨hpr1, hpr2⟩ := hpr
      have hcast : ((gatherOf q.all).length : Int) = ((q.one 0 0).length : Int) * (q.all.length : Int) := by rw [HL.out]; simp
      have HCast := Lib.hid hcast
      have HF := Lib.hid hq.first
      clear hw ht hl hkh hkw hs hp b3 hcast
      go_enter Try.func34, Try.ntmps34
      go_wp2_with fail
      refine HZ.out.mono ?_
      rintro e w2 ⟨a2, c2, rfl, hI, hb⟩
      rw [HW.out] at hI ⊢
      have hB2 : Below w.heap.size w w2 := ((Below.refl _ w).alloc (Nat.le_refl _) _).trans (hb.mono (by simp))
      obtain ⟨bb, off, l0, a0, k0, rfl, hc0, e0, _, _, hbb, _⟩ := hI.pick (k := 0) (show 0 < q.all.length by omega)
      obtain rfl : l0 = q.one 0 0 := by rw [HF.out] at e0; cases e0; rfl
      have HC0 : Hid (w2.cell? ⟨bb, off, none⟩ = some (.slice a0 (q.one 0 0).length k0)) := hc0
      clear hc0 e0 hb
      have HI := Lib.hid hI
      have hgw := gather_wf hq
      have HGW := Lib.hid hgw
      have HGE := Lib.hid (gatherOf_eq hq)
      clear hI hgw
      go_wp2
      go_loopw [12, 13] (fun v j wr => ∃ (r : Nat) (P : List Int), r ≤ (q.one 0 0).length ∧ j = .int .i64 r ∧ Hid (P = (List.range r).flatMap fun r => (List.range q.all.length).map fun c => (q.all.getD c []).getD r 0) ∧
          P.length ≤ r * q.all.length ∧ Hid (wr.ownsRow w2.heap.size 3 1 v P.length (P.map (Value.int .i64))) ∧ Below w2.heap.size w2 wr)
        (fun _ j _ => (q.one 0 0).length - (intOf j).toNat)
      case atStart => exact ⟨0, [], Nat.zero_le _, rfl, rfl, by simp, World.ownsRow_nil _ _ _ _, Below.refl _ _⟩
      case round =>
        obtain ⟨r, P, hr, rfl, HP, hPl, hO, hBr⟩ := hrel
        have hc0r := (hBr.cell (p := ⟨bb, off, none⟩) hbb).trans HC0.out
        by_cases hlt : r < (q.one 0 0).length
        · have hrm : r * q.all.length ≤ 262144 * 262144 := Nat.mul_le_mul (by omega) (by omega)
          go_wp2
          go_loopw [12, 14] (fun v j wi => ∃ (c : Nat) (T : List Int), c ≤ q.all.length ∧ j = .int .i64 c ∧ Hid (T = P ++ (List.range c).map fun c => (q.all.getD c []).getD r 0) ∧ T.length ≤ r * q.all.length + c ∧
              Hid (wi.ownsRow w2.heap.size 3 1 v T.length (T.map (Value.int .i64))) ∧ Below w2.heap.size w2 wi)
            (fun _ j _ => q.all.length - (intOf j).toNat)
          case atStart => exact ⟨0, P, Nat.zero_le _, rfl, by simp [Hid], hPl, hO, hBr⟩
          case round =>
            clear hO hBr hc0r
            obtain ⟨c, T, hc, rfl, HT, hTl, hO, hBr⟩ := hrel
            by_cases hltc : c < q.all.length
            · obtain ⟨y1, o1, l1, a1, k1, hey, d1, e1, _, f1, _, _⟩ := (HI.out.below hBr).pick hltc
              obtain ⟨rfl, rfl⟩ : bb = y1 ∧ off = o1 := by cases hey; exact ⟨rfl, rfl⟩
              have hl1 := all_one_len q e1
              obtain ⟨z1, p1, v1, rfl, m1, r1, _, _, _⟩ := f1.pick (show r < l1.length by omega)
              have HE : Hid ((q.all.getD c []).getD r 0 = v1) := by unfold Hid; simp [List.getD, e1, r1]
              have hrl : r < l1.length := by omega
              clear e1 r1 hl1 f1 hey
              go_wp2_with (at_builtin; refine wpList_app1 rfl (.tmp 50) (.tmp 58) 22 rfl w2.heap.size 3 (.int .i64 0) 8 Try.underlying22 Try.info3 rfl _ T.length _ rfl hO.out _ rfl rfl (by omega) (by unfold maxLen; omega) hBr.size ?_; intro v' w' hown hg hn)
              go_roundw
              case rel =>
                refine ⟨c + 1, T ++ [v1], by omega, by go_num, ?_, by simp; omega, ?_, hBr.grown hg hBr.size (fun k hk => (hO.out.lt k hk).1)⟩
                · unfold Hid; rw [map_snoc, HT.out, HE.out]
                · unfold Hid; simpa using hown
              case measure => simp [intOf]; omega
            · obtain rfl : c = q.all.length := by omega
              go_wp2
              go_roundw
              case rel => exact ⟨r + 1, T, by omega, by go_num, by
                unfold Hid
                have := flat_snoc [] (fun r => (List.range q.all.length).map fun c => (q.all.getD c []).getD r 0) r
                simp only [List.nil_append] at this
                rw [this, ← HP.out]; exact HT.out, by rw [Nat.succ_mul]; exact hTl, hO, hBr⟩
              case measure => simp [intOf]; omega
        · obtain rfl : r = (q.one 0 0).length := by omega
          go_wp2
          go_quiet (fail)
          go_wp2
          refine bodyPost_ret (results_tmp4 rfl _ _ _) rfl ?_
          have hPe : P = gatherOf q.all := by rw [HP.out, HGE.out]
          obtain ⟨a', c', hv', hI'⟩ := Ints.own hO.out (fun x hx => by have := HGW.out x (hPe ▸ hx); omega) (by rw [hPe]; omega)
          unfold GatherPost
          rw [HG.out]
          refine ⟨a', c', ?_, ?_, below_drewN (hB2.trans (hBr.mono hB2.size)) _⟩
          · rw [← hPe, ← hv']; rfl
          · rw [← hPe]
            have hlt := hO.out.lt
            exact (hI'.mono (F' := fun b => w.heap.size ≤ b) (fun b _ hb => by have := (hlt b hb).1; have := hB2.size; omega)).drewN _
  · have HG := Lib.hid (gatherL_kind (l := l) (kh := kh) (kw := kw) (s := s) (p := p) hk)
    have hne : (kind != 2) = true := by rw [bne_iff_ne]; exact hk
    go_enter Try.func34, Try.ntmps34
    go_wp2
    refine bodyPost_ret (results_tmp4 rfl _ _ _) rfl ?_
    exact gatherPost_err HG.out ((Below.refl _ w).alloc (Nat.le_refl _) _)

end Go.Proofs.Ytcgpidicegbnoaa

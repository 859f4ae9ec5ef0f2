/-
  Contracts of the functions that the statements reach, in the order in which they are built: KerX.
-/
import Derived.Test.YthlmgejikbmmaaaGreatM11
import Derived.StillTailTactics
set_option linter.unusedVariables false
set_option linter.unusedSimpArgs false
set_option linter.constructorNameAsVariable false
set_option linter.deprecated false

/-
  The machine's do at sum and max: by contract.
-/
namespace Go.Proofs.YthlmgejikbmmaaaGreat
open Go.RowKit

def smAt (S : List Int) (b : Nat) (d : Int) : Nat → Int
  | 0 => d
  | j + 1 => wrap64 (smAt S b d j + S.getD (b + j) 0)
def mxAt (S : List Int) (b : Nat) : Nat → Int
  | 0 => S.getD b 0
  | j + 1 => max (mxAt S b j) (S.getD (b + j) 0)
def sumL (S : List Int) (inn : Nat) (D : List Int) : List Int := (List.range D.length).map fun i => smAt S (i * inn) (D.getD i 0) inn
def maxL (S : List Int) (inn n : Nat) : List Int := (List.range n).map fun i => mxAt S (i * inn) inn
theorem sumL_at {S D : List Int} {inn i : Nat} (h : i < D.length) : (sumL S inn D)[i]? = some (smAt S (i * inn) (D.getD i 0) inn) := by simp [sumL, h]
theorem maxL_at {S : List Int} {inn n i : Nat} (h : i < n) : (maxL S inn n)[i]? = some (mxAt S (i * inn) inn) := by simp [maxL, h]
theorem set_same {l : List Int} {i : Nat} (h : i < l.length) : l.set i (l.getD i 0) = l := by
  rw [List.getD_eq_getElem?_getD, List.getElem?_eq_getElem h]; exact List.set_getElem_self h
theorem laid_get {N D : List Int} {k : Nat} (hk : k < D.length) (hN : N.length = D.length) : (N.take k ++ D.drop k).getD k 0 = D.getD k 0 := getD_laid (by simp; omega)
theorem mul_fits {a b c n : Nat} (h : n = a * b) (hc : c < a) : c * b + b ≤ n := by rw [h, ← Nat.succ_mul]; exact Nat.mul_le_mul_right _ hc

set_option maxRecDepth 100000 in
set_option maxHeartbeats 3200000 in
theorem doSum {w : World} {M B cap : Nat} {gs : List Nat} {vs : List (List Int)} {h wd : Int} (m : Mach w M B cap gs vs h wd) {dn sn gd gc : Nat} {D S : List Int} (d1 : gs[dn]? = some gd) (d2 : vs[dn]? = some D) (s1 : gs[sn]? = some gc) (s2 : vs[sn]? = some S) (hne : dn ≠ sn)
    (ot co mu sh : Int) (inn : Nat) (a1 a2 a3 : Option Addr) (l1 l2 l3 c1 c2 c3 : Nat) (hlen : S.length = D.length * inn) (hi1 : 1 ≤ inn) (hi2 : inn ≤ 262144) (hS : S.length ≤ 262144) (hD : D.length ≤ 262144) :
    Calls Tryz.prog 18 #[.pointer (some ⟨M, 0, none⟩), .agg #[.int .i64 5, .int .i64 (dn : Int), .int .i64 (sn : Int), .int .i64 ot, .int .i64 co, .int .i64 (inn : Int), .slice a1 l1 c1, .slice a2 l2 c2, .slice a3 l3 c3, .int .i64 mu, .int .i64 sh]] w
      fun e w' => (∃ u, e = .returned u) ∧ DoRet w gd (sumL S inn D) w' := by
  obtain ⟨r1, rb1⟩ := m.row dn gd D d1 d2
  obtain ⟨r2, rb2⟩ := m.row sn gc S s1 s2
  have m0 := m.m0
  have hdl : dn < gs.length := (List.getElem?_eq_some_iff.1 d1).1
  have hsl : sn < gs.length := (List.getElem?_eq_some_iff.1 s1).1
  have hcap := m.cap
  have mlt := m.mlt
  have blt := m.blt
  have hgs := m.ne d1 s1 hne
  have hMgd : M ≠ gd := fun e => m.nM (e ▸ List.mem_of_getElem? d1)
  have hBgd : B ≠ gd := fun e => m.nB (e ▸ List.mem_of_getElem? d1)
  have HLen := Lib.hid hlen
  obtain ⟨N, hN⟩ : ∃ N : List Int, N = sumL S inn D := ⟨_, rfl⟩
  have HNl : Hid (N.length = D.length) := by unfold Hid; rw [hN]; simp [sumL, maxL]
  have HN := Lib.hid hN
  rw [← hN]
  clear hlen hN
  go_enter Tryz.func18, Tryz.ntmps18
  go_upto_region 1 with fail
  have hbx := Box11.alloc w (.int .i64 5) (.int .i64 (dn : Int)) (.int .i64 (sn : Int)) (.int .i64 ot) (.int .i64 co) (.int .i64 (inn : Int)) (.slice a1 l1 c1) (.slice a2 l2 c2) (.slice a3 l3 c3) (.int .i64 mu) (.int .i64 sh) 40
  have hb1 : Below w.heap.size w (w.alloc (.cells #[.int .i64 5, .int .i64 (dn : Int), .int .i64 (sn : Int), .int .i64 ot, .int .i64 co, .int .i64 (inn : Int), .slice a1 l1 c1, .slice a2 l2 c2, .slice a3 l3 c3, .int .i64 mu, .int .i64 sh] 40)) := (Below.refl _ _).alloc (Nat.le_refl _) _
  have hmW := m.below hb1
  have y0 := (hb1.cell mlt).trans m0
  have y1 := (hb1.cell blt).trans r1
  have y2 := (hb1.cell blt).trans r2
  have hMB : M < (w.alloc (.cells #[.int .i64 5, .int .i64 (dn : Int), .int .i64 (sn : Int), .int .i64 ot, .int .i64 co, .int .i64 (inn : Int), .slice a1 l1 c1, .slice a2 l2 c2, .slice a3 l3 c3, .int .i64 mu, .int .i64 sh] 40)).heap.size := by simp; omega
  have hBB : B < (w.alloc (.cells #[.int .i64 5, .int .i64 (dn : Int), .int .i64 (sn : Int), .int .i64 ot, .int .i64 co, .int .i64 (inn : Int), .slice a1 l1 c1, .slice a2 l2 c2, .slice a3 l3 c3, .int .i64 mu, .int .i64 sh] 40)).heap.size := by simp; omega
  have hgB : w.heap.size < (w.alloc (.cells #[.int .i64 5, .int .i64 (dn : Int), .int .i64 (sn : Int), .int .i64 ot, .int .i64 co, .int .i64 (inn : Int), .slice a1 l1 c1, .slice a2 l2 c2, .slice a3 l3 c3, .int .i64 mu, .int .i64 sh] 40)).heap.size := by simp
  generalize w.alloc (.cells #[.int .i64 5, .int .i64 (dn : Int), .int .i64 (sn : Int), .int .i64 ot, .int .i64 co, .int .i64 (inn : Int), .slice a1 l1 c1, .slice a2 l2 c2, .slice a3 l3 c3, .int .i64 mu, .int .i64 sh] 40) = W at *
  have z1 := hbx.c1
  have z2 := hbx.c2
  have HBx := Lib.hid hbx
  have HB1 := Lib.hid hb1
  have HMW := Lib.hid hmW
  have RB1 := Lib.hid rb1
  have RB2 := Lib.hid rb2
  clear m0 r1 r2 rb1 rb2 hbx hb1 hmW m
  go_cut [4, 5] (fun s4 s5 wx => DoCut W (.slice (some ⟨gd, 0, none⟩) D.length D.length) (.slice (some ⟨gc, 0, none⟩) S.length S.length) s4 s5 wx)
  case first =>
    go_region_held3 (fun w' => w'.cell? ⟨M, 0, none⟩ = some (.slice (some ⟨B, 0, none⟩) gs.length cap) ∧ w'.cell? ⟨w.heap.size, 1, none⟩ = some (.int .i64 (dn : Int)) ∧ w'.cell? ⟨w.heap.size, 2, none⟩ = some (.int .i64 (sn : Int)) ∧ w'.cell? ⟨B, dn, none⟩ = some (.slice (some ⟨gd, 0, none⟩) D.length D.length) ∧ w'.cell? ⟨B, sn, none⟩ = some (.slice (some ⟨gc, 0, none⟩) S.length S.length))
      (first
        | exact ⟨y0, z1, z2, y1, y2⟩
        | exact S5_alloc hMB hgB hBB y0 z1 z2 y1 y2
        | exact S5_alloc2 hMB hgB hBB y0 z1 z2 y1 y2
        | (refine ⟨?_, ?_, ?_, ?_, ?_⟩ <;> simp_all))
      (fail)
    all_goals (go_wp2_with fail; go_meet)
    all_goals first | exact DoCut.mk1 _ _ _ _ | exact DoCut.mk2 _ _ _ _
  case rest =>
    obtain ⟨g4, g5, rfl, rfl, p4, p5, hbw, q4, q5, q6, q7⟩ := hcut
    obtain ⟨u0, u1, u2, u3, u4, u5, u6, u7, u8, u9, u10, ult⟩ := HBx.out.below hbw
    have hgd : gd < W.heap.size := Nat.lt_of_lt_of_le RB1.out.lt HB1.out.size
    have hIS := (RB2.out.below HB1.out).below hbw
    have hID := (RB1.out.below HB1.out).below hbw
    have HIS := Lib.hid hIS
    have HBW := Lib.hid (HB1.out.trans (hbw.mono HB1.out.size))
    have n4 : g4 ≠ gd := by omega
    have n5 : g5 ≠ gd := by omega
    have nbx : w.heap.size ≠ gd := by have := RB1.out.lt; omega
    clear y0 y1 y2 z1 z2 hMB hgB hBB hbw hIS
    go_wp2
    obtain ⟨wo, hwo⟩ : ∃ wo : World, wo = wc := ⟨_, rfl⟩
    subst hwo
    go_loopw [158] (fun i wr => ∃ k : Nat, k ≤ D.length ∧ i = .int .i64 (k : Int) ∧ Only gd wo wr ∧ Hid (IBlk wr gd (N.take k ++ D.drop k))) (fun i _ => D.length - (intOf i).toNat)
    case atStart => exact ⟨0, Nat.zero_le _, rfl, Only.refl _ _, by simpa [Hid] using hID⟩
    case round =>
      clear hID
      obtain ⟨k, hk, rfl, hO, HI⟩ := hrel
      have p4' := (hO.cell (p := ⟨g4, 0, none⟩) n4).trans p4
      have p5' := (hO.cell (p := ⟨g5, 0, none⟩) n5).trans p5
      have b5 := (hO.cell (p := ⟨w.heap.size, 5, none⟩) nbx).trans u5
      by_cases hlt : k < D.length
      · have hfit := mul_fits HLen.out hlt
        have HSt : Hid ((N.take k ++ D.drop k).set k (smAt S (k * inn) (D.getD k 0) inn) = N.take (k + 1) ++ D.drop (k + 1)) := laid_set hlt HNl.out (by rw [HN.out]; exact sumL_at hlt)
        have HS0 : Hid ((N.take k ++ D.drop k).set k (smAt S (k * inn) (D.getD k 0) 0) = N.take k ++ D.drop k) := by
          have h1 := laid_get hlt HNl.out
          unfold Hid smAt
          rw [← h1]
          exact set_same (by simp; have := HNl.out; omega)
        have HLl : Hid ((N.take k ++ D.drop k).length = D.length) := by unfold Hid; simp; have := HNl.out; omega
        have HO := Lib.hid hO
        clear hO
        obtain ⟨lo, hlo⟩ : ∃ lo, lo = k * inn := ⟨_, rfl⟩
        rw [← hlo] at hfit HSt HS0
        have m1 : IntKind.i64.wrap ((k : Int) * (inn : Int)) = (lo : Int) := by
          rw [show ((k : Int) * (inn : Int)) = ((k * inn : Nat) : Int) by simp, ← hlo]; exact IntWalk.i64_in _ (by omega)
        have m2 : IntKind.i64.wrap (((k : Int) + 1) * (inn : Int)) = ((lo + inn : Nat) : Int) := by
          rw [show (((k : Int) + 1) * (inn : Int)) = (((k + 1) * inn : Nat) : Int) by simp, Nat.succ_mul, ← hlo]; exact IntWalk.i64_in _ (by omega)
        have HLo := Lib.hid hlo
        clear hlo
        generalize N.take k ++ D.drop k = X at *
        obtain ⟨wi, hwi⟩ : ∃ wi : World, wi = wr := ⟨_, rfl⟩
        subst hwi
        have HP4 := Lib.hid p4'
        have HI' := Lib.hid HI
        clear HI
        go_wp2
        clear p4' p5' b5
        go_loopw [173] (fun i wr => ∃ j : Nat, j ≤ inn ∧ i = .int .i64 (j : Int) ∧ Only gd wo wr ∧ Hid (IBlk wr gd (X.set k (smAt S lo (D.getD k 0) j)))) (fun i _ => inn - (intOf i).toNat)
        case atStart => exact ⟨0, Nat.zero_le _, rfl, HO.out, by unfold Hid; rw [HS0.out]; exact HI'.out.out⟩
        case round =>
          clear HI' HO
          obtain ⟨j, hj, rfl, hO, HI⟩ := hrel
          have p4' := (hO.cell (p := ⟨g4, 0, none⟩) n4).trans p4
          by_cases hltj : j < inn
          · have cs := (HIS.out.only hO hgs).cell (show lo + j < S.length by omega)
            have hXk : k < (X.set k (smAt S lo (D.getD k 0) j)).length := by rw [List.length_set, HLl.out]; exact hlt
            have cd := HI.out.cell hXk
            have fd := HI.out.free k
            have hgk : (X.set k (smAt S lo (D.getD k 0) j)).getD k 0 = smAt S lo (D.getD k 0) j := by rw [List.getD_eq_getElem?_getD, List.getElem?_set_self (by rw [HLl.out]; exact hlt)]; rfl
            rw [hgk] at cd
            have HSj : Hid ((X.set k (smAt S lo (D.getD k 0) j)).set k (wrap64 (smAt S lo (D.getD k 0) j + S.getD (lo + j) 0)) = X.set k (smAt S lo (D.getD k 0) (j + 1))) := by unfold Hid; rw [List.set_set]; rfl
            have HO := Lib.hid hO
            clear hO hgk hXk
            generalize smAt S lo (D.getD k 0) j = y at *
            generalize S.getD (lo + j) 0 = x at *
            go_wp2
            go_roundw
            case rel => exact ⟨j + 1, hltj, by go_num, HO.out.setCell k _, by unfold Hid; rw [← HSj.out]; exact HI.out.set k _⟩
            case measure => simp [intOf]; omega
          · obtain rfl : j = inn := by omega
            have HF := Lib.hid HI.out
            have HO := Lib.hid hO
            clear hO HI
            go_wp2
            go_roundw
            case rel => exact ⟨k + 1, hlt, by go_num, HO.out, by unfold Hid; rw [← HSt.out]; exact HF.out⟩
            case measure => simp [intOf]; omega
      · obtain rfl : k = D.length := by omega
        have HFin : Hid (IBlk wr gd N) := by
          have h1 := HI.out
          rw [List.take_of_length_le (by rw [HNl.out]; exact Nat.le_refl _), List.drop_of_length_le (Nat.le_refl _), List.append_nil] at h1
          exact h1
        have HO := Lib.hid hO
        clear hO
        go_wp2
        go_end0
        exact ⟨⟨_, rfl⟩, _, HBW.out, HO.out, HFin.out⟩

set_option maxRecDepth 100000 in
set_option maxHeartbeats 3200000 in
theorem doMax {w : World} {M B cap : Nat} {gs : List Nat} {vs : List (List Int)} {h wd : Int} (m : Mach w M B cap gs vs h wd) {dn sn gd gc : Nat} {D S : List Int} (d1 : gs[dn]? = some gd) (d2 : vs[dn]? = some D) (s1 : gs[sn]? = some gc) (s2 : vs[sn]? = some S) (hne : dn ≠ sn)
    (ot co mu sh : Int) (inn : Nat) (a1 a2 a3 : Option Addr) (l1 l2 l3 c1 c2 c3 : Nat) (hlen : S.length = D.length * inn) (hi1 : 1 ≤ inn) (hi2 : inn ≤ 262144) (hS : S.length ≤ 262144) (hD : D.length ≤ 262144) :
    Calls Tryz.prog 18 #[.pointer (some ⟨M, 0, none⟩), .agg #[.int .i64 4, .int .i64 (dn : Int), .int .i64 (sn : Int), .int .i64 ot, .int .i64 co, .int .i64 (inn : Int), .slice a1 l1 c1, .slice a2 l2 c2, .slice a3 l3 c3, .int .i64 mu, .int .i64 sh]] w
      fun e w' => (∃ u, e = .returned u) ∧ DoRet w gd (maxL S inn D.length) w' := by
  obtain ⟨r1, rb1⟩ := m.row dn gd D d1 d2
  obtain ⟨r2, rb2⟩ := m.row sn gc S s1 s2
  have m0 := m.m0
  have hdl : dn < gs.length := (List.getElem?_eq_some_iff.1 d1).1
  have hsl : sn < gs.length := (List.getElem?_eq_some_iff.1 s1).1
  have hcap := m.cap
  have mlt := m.mlt
  have blt := m.blt
  have hgs := m.ne d1 s1 hne
  have hMgd : M ≠ gd := fun e => m.nM (e ▸ List.mem_of_getElem? d1)
  have hBgd : B ≠ gd := fun e => m.nB (e ▸ List.mem_of_getElem? d1)
  have HLen := Lib.hid hlen
  obtain ⟨N, hN⟩ : ∃ N : List Int, N = maxL S inn D.length := ⟨_, rfl⟩
  have HNl : Hid (N.length = D.length) := by unfold Hid; rw [hN]; simp [sumL, maxL]
  have HN := Lib.hid hN
  rw [← hN]
  clear hlen hN
  go_enter Tryz.func18, Tryz.ntmps18
  go_upto_region 1 with fail
  have hbx := Box11.alloc w (.int .i64 4) (.int .i64 (dn : Int)) (.int .i64 (sn : Int)) (.int .i64 ot) (.int .i64 co) (.int .i64 (inn : Int)) (.slice a1 l1 c1) (.slice a2 l2 c2) (.slice a3 l3 c3) (.int .i64 mu) (.int .i64 sh) 40
  have hb1 : Below w.heap.size w (w.alloc (.cells #[.int .i64 4, .int .i64 (dn : Int), .int .i64 (sn : Int), .int .i64 ot, .int .i64 co, .int .i64 (inn : Int), .slice a1 l1 c1, .slice a2 l2 c2, .slice a3 l3 c3, .int .i64 mu, .int .i64 sh] 40)) := (Below.refl _ _).alloc (Nat.le_refl _) _
  have hmW := m.below hb1
  have y0 := (hb1.cell mlt).trans m0
  have y1 := (hb1.cell blt).trans r1
  have y2 := (hb1.cell blt).trans r2
  have hMB : M < (w.alloc (.cells #[.int .i64 4, .int .i64 (dn : Int), .int .i64 (sn : Int), .int .i64 ot, .int .i64 co, .int .i64 (inn : Int), .slice a1 l1 c1, .slice a2 l2 c2, .slice a3 l3 c3, .int .i64 mu, .int .i64 sh] 40)).heap.size := by simp; omega
  have hBB : B < (w.alloc (.cells #[.int .i64 4, .int .i64 (dn : Int), .int .i64 (sn : Int), .int .i64 ot, .int .i64 co, .int .i64 (inn : Int), .slice a1 l1 c1, .slice a2 l2 c2, .slice a3 l3 c3, .int .i64 mu, .int .i64 sh] 40)).heap.size := by simp; omega
  have hgB : w.heap.size < (w.alloc (.cells #[.int .i64 4, .int .i64 (dn : Int), .int .i64 (sn : Int), .int .i64 ot, .int .i64 co, .int .i64 (inn : Int), .slice a1 l1 c1, .slice a2 l2 c2, .slice a3 l3 c3, .int .i64 mu, .int .i64 sh] 40)).heap.size := by simp
  generalize w.alloc (.cells #[.int .i64 4, .int .i64 (dn : Int), .int .i64 (sn : Int), .int .i64 ot, .int .i64 co, .int .i64 (inn : Int), .slice a1 l1 c1, .slice a2 l2 c2, .slice a3 l3 c3, .int .i64 mu, .int .i64 sh] 40) = W at *
  have z1 := hbx.c1
  have z2 := hbx.c2
  have HBx := Lib.hid hbx
  have HB1 := Lib.hid hb1
  have HMW := Lib.hid hmW
  have RB1 := Lib.hid rb1
  have RB2 := Lib.hid rb2
  clear m0 r1 r2 rb1 rb2 hbx hb1 hmW m
  go_cut [4, 5] (fun s4 s5 wx => DoCut W (.slice (some ⟨gd, 0, none⟩) D.length D.length) (.slice (some ⟨gc, 0, none⟩) S.length S.length) s4 s5 wx)
  case first =>
    go_region_held3 (fun w' => w'.cell? ⟨M, 0, none⟩ = some (.slice (some ⟨B, 0, none⟩) gs.length cap) ∧ w'.cell? ⟨w.heap.size, 1, none⟩ = some (.int .i64 (dn : Int)) ∧ w'.cell? ⟨w.heap.size, 2, none⟩ = some (.int .i64 (sn : Int)) ∧ w'.cell? ⟨B, dn, none⟩ = some (.slice (some ⟨gd, 0, none⟩) D.length D.length) ∧ w'.cell? ⟨B, sn, none⟩ = some (.slice (some ⟨gc, 0, none⟩) S.length S.length))
      (first
        | exact ⟨y0, z1, z2, y1, y2⟩
        | exact S5_alloc hMB hgB hBB y0 z1 z2 y1 y2
        | exact S5_alloc2 hMB hgB hBB y0 z1 z2 y1 y2
        | (refine ⟨?_, ?_, ?_, ?_, ?_⟩ <;> simp_all))
      (fail)
    all_goals (go_wp2_with fail; go_meet)
    all_goals first | exact DoCut.mk1 _ _ _ _ | exact DoCut.mk2 _ _ _ _
  case rest =>
    obtain ⟨g4, g5, rfl, rfl, p4, p5, hbw, q4, q5, q6, q7⟩ := hcut
    obtain ⟨u0, u1, u2, u3, u4, u5, u6, u7, u8, u9, u10, ult⟩ := HBx.out.below hbw
    have hgd : gd < W.heap.size := Nat.lt_of_lt_of_le RB1.out.lt HB1.out.size
    have hIS := (RB2.out.below HB1.out).below hbw
    have hID := (RB1.out.below HB1.out).below hbw
    have HIS := Lib.hid hIS
    have HBW := Lib.hid (HB1.out.trans (hbw.mono HB1.out.size))
    have n4 : g4 ≠ gd := by omega
    have n5 : g5 ≠ gd := by omega
    have nbx : w.heap.size ≠ gd := by have := RB1.out.lt; omega
    clear y0 y1 y2 z1 z2 hMB hgB hBB hbw hIS
    go_wp2
    obtain ⟨wo, hwo⟩ : ∃ wo : World, wo = wc := ⟨_, rfl⟩
    subst hwo
    go_loopw [114] (fun i wr => ∃ k : Nat, k ≤ D.length ∧ i = .int .i64 (k : Int) ∧ Only gd wo wr ∧ Hid (IBlk wr gd (N.take k ++ D.drop k))) (fun i _ => D.length - (intOf i).toNat)
    case atStart => exact ⟨0, Nat.zero_le _, rfl, Only.refl _ _, by simpa [Hid] using hID⟩
    case round =>
      clear hID
      obtain ⟨k, hk, rfl, hO, HI⟩ := hrel
      have p4' := (hO.cell (p := ⟨g4, 0, none⟩) n4).trans p4
      have p5' := (hO.cell (p := ⟨g5, 0, none⟩) n5).trans p5
      have b5 := (hO.cell (p := ⟨w.heap.size, 5, none⟩) nbx).trans u5
      by_cases hlt : k < D.length
      · have hfit := mul_fits HLen.out hlt
        have HSt : Hid ((N.take k ++ D.drop k).set k (mxAt S (k * inn) inn) = N.take (k + 1) ++ D.drop (k + 1)) := laid_set hlt HNl.out (by rw [HN.out]; exact maxL_at hlt)
        have HLl : Hid ((N.take k ++ D.drop k).length = D.length) := by unfold Hid; simp; have := HNl.out; omega
        have cd := HI.out.cell (x := k) (by rw [HLl.out]; exact hlt)
        have fd := HI.out.free k
        have cs := (HIS.out.only hO hgs).cell (show k * inn < S.length by omega)
        have HO := Lib.hid hO
        clear hO
        obtain ⟨lo, hlo⟩ : ∃ lo, lo = k * inn := ⟨_, rfl⟩
        rw [← hlo] at hfit HSt cs
        have m1 : IntKind.i64.wrap ((k : Int) * (inn : Int)) = (lo : Int) := by
          rw [show ((k : Int) * (inn : Int)) = ((k * inn : Nat) : Int) by simp, ← hlo]; exact IntWalk.i64_in _ (by omega)
        have m2 : IntKind.i64.wrap (((k : Int) + 1) * (inn : Int)) = ((lo + inn : Nat) : Int) := by
          rw [show (((k : Int) + 1) * (inn : Int)) = (((k + 1) * inn : Nat) : Int) by simp, Nat.succ_mul, ← hlo]; exact IntWalk.i64_in _ (by omega)
        have hlos : lo < S.length := by omega
        have HLo := Lib.hid hlo
        clear hlo
        generalize N.take k ++ D.drop k = X at *
        obtain ⟨wi, hwi⟩ : ∃ wi : World, wi = wr := ⟨_, rfl⟩
        subst hwi
        have HX0 := Lib.hid (HI.out.set k (S.getD lo 0))
        generalize hs0 : S.getD lo 0 = x0 at *
        have HS0 := Lib.hid hs0
        clear hs0
        go_wp2
        go_region_held3 (fun w' => w'.cell? ⟨g4, 0, none⟩ = some (.slice (some ⟨gd, 0, none⟩) D.length D.length) ∧ w'.cell? ⟨g5, 0, none⟩ = some (.slice (some ⟨gc, 0, none⟩) S.length S.length) ∧ w'.cell? ⟨w.heap.size, 5, none⟩ = some (.int .i64 (inn : Int)) ∧ w'.cell? ⟨gc, lo, none⟩ = some (.int .i64 x0))
          (first | exact ⟨p4', p5', b5, cs⟩ | exact ⟨(far2 (Ne.symm n4)).trans p4', (far2 (Ne.symm n5)).trans p5', (far2 (Ne.symm nbx)).trans b5, (far2 (Ne.symm hgs)).trans cs⟩)
          (fail)
        rename_i hHeld
        obtain ⟨p4', p5', b5, _⟩ := hHeld
        have HO2 := Lib.hid (HO.out.setCell k (.int .i64 x0)).drew
        have HI2 : Hid (IBlk (wi.setCell ⟨gd, k, none⟩ (.int .i64 x0)).drew gd (X.set k x0)) := HX0.out
        clear HO HI HX0 cd fd cs
        generalize (wi.setCell ⟨gd, k, none⟩ (.int .i64 x0)).drew = w2 at *
        go_wp2
        clear p4' p5' b5
        simp only [Nat.add_sub_cancel_left]
        go_loopw [139] (fun i wr => ∃ j : Nat, j ≤ inn ∧ i = .int .i64 (j : Int) ∧ Only gd wo wr ∧ Hid (IBlk wr gd (X.set k (mxAt S lo j)))) (fun i _ => inn - (intOf i).toNat)
        case atStart => exact ⟨0, Nat.zero_le _, rfl, HO2.out, by unfold Hid mxAt; rw [HS0.out]; exact HI2.out⟩
        case round =>
          clear HI2 HO2
          obtain ⟨j, hj, rfl, hO, HI⟩ := hrel
          have p4' := (hO.cell (p := ⟨g4, 0, none⟩) n4).trans p4
          by_cases hltj : j < inn
          · have cs := (HIS.out.only hO hgs).cell (show lo + j < S.length by omega)
            have hXk : k < (X.set k (mxAt S lo j)).length := by rw [List.length_set, HLl.out]; exact hlt
            have cd := HI.out.cell hXk
            have fd := HI.out.free k
            have hgk : (X.set k (mxAt S lo j)).getD k 0 = mxAt S lo j := by rw [List.getD_eq_getElem?_getD, List.getElem?_set_self (by rw [HLl.out]; exact hlt)]; rfl
            rw [hgk] at cd
            have HSj : Hid ((X.set k (mxAt S lo j)).set k (max (mxAt S lo j) (S.getD (lo + j) 0)) = X.set k (mxAt S lo (j + 1))) := by unfold Hid; rw [List.set_set]; rfl
            have HO := Lib.hid hO
            clear hO hgk hXk
            generalize mxAt S lo j = y at *
            generalize S.getD (lo + j) 0 = x at *
            go_wp2
            refine wp_region_still_tail 9 (by kernel_rfl) (by kernel_rfl) ?_
            simp only [List.take_succ_cons, List.take_zero, List.drop_succ_cons, List.drop_zero]
            repeat still_step
            refine wpStill_nil ?_
            have HO' := Lib.hid HO.out.drew
            have HI' : Hid (IBlk wr.drew gd (X.set k y)) := HI.out
            have cd' : wr.drew.cell? ⟨gd, k, none⟩ = some (.int .i64 y) := cd
            have fd' : wr.drew.frozen? ⟨gd, k, none⟩ = false := fd
            show wpList _ _ _ _ _ wr.drew
            clear HO HI cd fd cs p4'
            generalize wr.drew = w3 at *
            go_wp2
            go_roundw
            case rel => exact ⟨j + 1, hltj, by go_num, HO'.out.setCell k _, by unfold Hid; rw [← HSj.out]; exact HI'.out.set k _⟩
            case measure => simp [intOf]; omega
          · obtain rfl : j = inn := by omega
            have HF := Lib.hid HI.out
            have HO := Lib.hid hO
            clear hO HI
            go_wp2
            go_roundw
            case rel => exact ⟨k + 1, hlt, by go_num, HO.out, by unfold Hid; rw [← HSt.out]; exact HF.out⟩
            case measure => simp [intOf]; omega
      · obtain rfl : k = D.length := by omega
        have HFin : Hid (IBlk wr gd N) := by
          have h1 := HI.out
          rw [List.take_of_length_le (by rw [HNl.out]; exact Nat.le_refl _), List.drop_of_length_le (Nat.le_refl _), List.append_nil] at h1
          exact h1
        have HO := Lib.hid hO
        clear hO
        go_wp2
        go_end0
        exact ⟨⟨_, rfl⟩, _, HBW.out, HO.out, HFin.out⟩

end Go.Proofs.YthlmgejikbmmaaaGreat

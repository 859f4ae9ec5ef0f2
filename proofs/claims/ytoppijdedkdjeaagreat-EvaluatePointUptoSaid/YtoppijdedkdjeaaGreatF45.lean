/-
  Contracts of the functions that the statement reaches: LwH, LwI, LwJ, LwK, LwM, LwO.
-/
import Derived.Test.YtoppijdedkdjeaaGreatF44
import Derived.Test.YtoppijdedkdjeaaGreatF43
set_option linter.unusedVariables false
set_option linter.unusedSimpArgs false
set_option linter.constructorNameAsVariable false
set_option linter.deprecated false
set_option maxRecDepth 100000
set_option maxHeartbeats 3200000
namespace Go.Proofs.YtoppijdedkdjeaaGreat
open Go.RowKit
open Go.Lib (hid)
theorem evRunX {w : World} {m : ModL} {a1 a2 ax : Option Addr} {L : List RatL} {R : List LayL} (c1 c2 cx : Nat) (h1 : Ints w Any a1 m.input) (h2 : LaysAt w a2 (m.layers ++ R)) (hr : ∀ l ∈ m.layers, LayRange l) (hs : ∀ l ∈ m.layers, LayLe l)
  (hR : ∀ l ∈ R, LayRange l /\ LayLe l /\ SmallL l) (hRl : R.length <= 4) (hX : RatsAt w ax L) (hp : Paid m L) :
  Calls Tryz.prog 17 #[.agg #[.slice a1 m.input.length c1, .slice a2 (m.layers ++ R).length c2], .slice ax L.length cx] w (RunPost w (runL ⟨m.input, m.layers ++ R⟩ (L.map ratOf))) := by
 obtain ⟨D, hD, hB, hRm⟩ := hp.room
 have hl := hp.lens
 have hll : (m.layers ++ R).length <= 12 := by rw [List.length_append]; omega
 have hX' := hX
 rw [hp.back] at hX'
 have hsm : ∀ l ∈ m.layers ++ R, SmallL l := fun l hl => by
  rcases List.mem_append.1 hl with k | k
  ·exact hp.sm l k
  ·exact (hR l k).2.2
 have hR' : RoomK ((12 - (m.layers ++ R).length) + (m.layers ++ R).length) D 18446744073709551616 := by rw [Nat.sub_add_cancel hll]; exact hRm
 have h := evRun (m := ⟨m.input, m.layers ++ R⟩) (x := L.map ratOf) c1 c2 cx h1 h2 (fun l hl => by
   rcases List.mem_append.1 hl with k | k
   ·exact hr l k
   ·exact (hR l k).1) (fun l hl => by
   rcases List.mem_append.1 hl with k | k
   ·exact hs l k
   ·exact (hR l k).2.1) hX' hsm hB hD (by omega) hll hRm (by rw [List.length_map]; have := hp.xl; omega) (fun l hl => Nat.le_trans (trace_len (m := ⟨m.input, m.layers ++ R⟩) hR' hB hD (by omega) hsm l hl) (by omega))
 rw [List.length_map] at h
 exact h
def imgB (m : ModL) : Bool := decide ((shapesL m).2.2 = 0) && decide ((currL m.input (shapesL m).1).length = 3)
def ImgPost (w : World) (m : ModL) (e : Ending) (w' : World) : Prop := ∃ a c, e = .returned (.tuple #[.slice a (currL m.input (shapesL m).1).length c, .bool (imgB m)]) /\ Ints w' Any a (currL m.input (shapesL m).1) /\ Below w.heap.size w w'
theorem kImage {w : World} {m : ModL} {a1 a2 : Option Addr} (c1 c2 : Nat) (h1 : Ints w Any a1 m.input) (h2 : LaysAt w a2 m.layers) (hr : ∀ l ∈ m.layers, LayRange l) (hs : ∀ l ∈ m.layers, LayLe l) :
  Calls Tryz.prog 21 #[.agg #[.slice a1 m.input.length c1, .slice a2 m.layers.length c2]] w (ImgPost w m) := by
 have q1 := h1.len
 have q2 := h2.len
 have hal : Below w.heap.size w (w.alloc (.cells #[.slice a1 m.input.length c1, .slice a2 m.layers.length c2] 25)) := (Below.refl _ _).alloc (Nat.le_refl _) _
 have hx := Box2.alloc w (.slice a1 m.input.length c1) (.slice a2 m.layers.length c2) 25
 have HO := hid (r13Of c1 c2 (h1.below hal) (h2.below hal) hr hs)
 have H1 := hid h1
 have HB := hid hal
 obtain ⟨P, hP⟩ : ∃ P, P = shapesL m := ⟨_, rfl⟩
 rw [<- hP] at HO
 have HP := hid hP
 clear h1 h2 hr hs hal hP
 go_enter Tryz.func21, Tryz.ntmps21
 go_upto_region 1 with fail
 generalize w.alloc (.cells #[.slice a1 m.input.length c1, .slice a2 m.layers.length c2] 25) = W at *
 have HX := hid hx
 obtain ⟨x0, x1, xf, xlt⟩ := hx
 obtain ⟨T, i, er⟩ := P
 go_wp2_with fail
 refine HO.out.mono ?_
 rintro e w3 ⟨⟨a, c, rfl, hT⟩, hb3⟩
 have HB3 := hid (HB.out.trans (hb3.mono HB.out.size))
 have HT := hid (hT.mono (F' := Any) (fun _ _ _ => trivial))
 simp only at hT ⊢
 have HI1 := hid (H1.out.below HB3.out)
 clear hb3 hT HO x0 x1 xf xlt HX
 obtain ⟨b, hb⟩ : ∃ b, b = imgB m := ⟨_, rfl⟩
 have hPost : ∀ (w' : World) (a' : Option Addr) (c' : Nat), Below w.heap.size w w' -> Ints w' Any a' (currL m.input (shapesL m).1) -> ImgPost w m (.returned (.tuple #[.slice a' (currL m.input (shapesL m).1).length c', .bool b])) w' := fun w' a' c' hb' hI => ⟨a', c', by rw [hb], hI, hb'⟩
 have HPost := hid hPost
 have hbv : b = (decide (er = 0) && decide ((currL m.input T).length = 3)) := by rw [hb]; unfold imgB; rw [<- HP.out]
 rw [show (shapesL m).1 = T by rw [<- HP.out]] at HPost
 have HBv := hid hbv
 have hTl := HT.out.len
 simp only at hTl
 clear hb hPost hbv
 by_cases hz : T = []
 ·subst hz
  have hc : currL m.input [] = m.input := rfl
  rw [hc] at HPost HBv
  clear hc
  by_cases h0 : er = 0
  ·have t1 : (er == 0) = true := by simp [h0]
   by_cases h3 : m.input.length = 3
   ·have HV : Hid (b = true) := by unfold Hid; rw [HBv.out, decide_eq_true h0, decide_eq_true h3]; rfl
    have t2 : ((m.input.length : Int) == 3) = true := by rw [h3]; rfl
    rw [HV.out] at HPost
    clear h0 h3
    go_wp2
    refine bodyPost_ret (results_tmp2 rfl _ _ _) rfl ?_
    exact HPost.out _ a1 c1 HB3.out HI1.out
   ·have HV : Hid (b = false) := by unfold Hid; rw [HBv.out, decide_eq_false h3, Bool.and_false]
    have t2 : ((m.input.length : Int) == 3) = false := by rw [beq_eq_false_iff_ne]; omega
    rw [HV.out] at HPost
    clear h0 h3
    go_wp2
    refine bodyPost_ret (results_tmp2 rfl _ _ _) rfl ?_
    exact HPost.out _ a1 c1 HB3.out HI1.out
  ·have HV : Hid (b = false) := by unfold Hid; rw [HBv.out, decide_eq_false h0]; rfl
   have t1 : (er == 0) = false := by rw [beq_eq_false_iff_ne]; exact h0
   rw [HV.out] at HPost
   clear h0
   go_wp2
   refine bodyPost_ret (results_tmp2 rfl _ _ _) rfl ?_
   exact HPost.out _ a1 c1 HB3.out HI1.out
 ·obtain ⟨j, hj⟩ : ∃ j, T.length = j + 1 := ⟨T.length - 1, by have := List.length_pos_iff.2 hz; omega⟩
  obtain ⟨bT, oT, s, aT, ct, haT, tc0, hTi, htc, hIt, hbT, _⟩ := HT.out.pickc (k := j) (by simp only; omega)
  simp only at hTi
  have hc : currL m.input T = s := by
   unfold currL
   rw [List.getLast?_eq_getElem?, hj, show j + 1 - 1 = j by omega, hTi]
   rfl
  rw [hc] at HPost HBv
  obtain ⟨nT, hnT⟩ : ∃ nT, nT = T.length := ⟨_, rfl⟩
  rw [<- hnT] at hTl hj ⊢
  have m0 : (nT : Int) - 1 = (j : Int) := by omega
  have t0 : decide ((0 : Int) < (nT : Int)) = true := decide_eq_true (by omega)
  have hjn : j < nT := by omega
  have HIt := hid hIt
  subst haT
  clear hc hTi hIt hnT hj hz
  by_cases h0 : er = 0
  ·have t1 : (er == 0) = true := by simp [h0]
   by_cases h3 : s.length = 3
   ·have HV : Hid (b = true) := by unfold Hid; rw [HBv.out, decide_eq_true h0, decide_eq_true h3]; rfl
    have t2 : ((s.length : Int) == 3) = true := by rw [h3]; rfl
    rw [HV.out] at HPost
    clear h0 h3
    go_wp2
    refine bodyPost_ret (results_tmp2 rfl _ _ _) rfl ?_
    exact HPost.out _ aT ct HB3.out HIt.out
   ·have HV : Hid (b = false) := by unfold Hid; rw [HBv.out, decide_eq_false h3, Bool.and_false]
    have t2 : ((s.length : Int) == 3) = false := by rw [beq_eq_false_iff_ne]; omega
    rw [HV.out] at HPost
    clear h0 h3
    go_wp2
    refine bodyPost_ret (results_tmp2 rfl _ _ _) rfl ?_
    exact HPost.out _ aT ct HB3.out HIt.out
  ·have HV : Hid (b = false) := by unfold Hid; rw [HBv.out, decide_eq_false h0]; rfl
   have t1 : (er == 0) = false := by rw [beq_eq_false_iff_ne]; exact h0
   rw [HV.out] at HPost
   clear h0
   go_wp2
   refine bodyPost_ret (results_tmp2 rfl _ _ _) rfl ?_
   exact HPost.out _ aT ct HB3.out HIt.out
theorem partL_all {α : Type} {l : List α} {n : Nat} (h : l.length = n) : partL l 0 n = l := by
 unfold partL
 rw [List.drop_zero, List.take_of_length_le (by omega)]
theorem sid3 {k : Int} (h : 1 <= k /\ k <= 3) : sidB k = true := by unfold sidB; rw [decide_eq_true h.1, decide_eq_true (by omega)]; rfl
def ptL (b : RatL) (ws : List RatL) : LayL := ⟨2, 0, 1, 1, 1, 1, 0, ws, [b]⟩
def ixP (C A i : Nat) : List Int := (List.range C).map fun ch => ((ch * A + i : Nat) : Int)
theorem ixP_len (C A i : Nat) : (ixP C A i).length = C := by simp [ixP]
theorem ixP_at {C A i k : Nat} (h : k < C) : (ixP C A i).getD k 0 = ((k * A + i : Nat) : Int) := by
 rw [List.getD_eq_getElem?_getD, ixP, List.getElem?_map, List.getElem?_range h]; rfl
theorem valid3 {C H W : Nat} (h : validL [(C : Int), (H : Int), (W : Int)] = true) : 1 <= C /\ 1 <= H /\ 1 <= W /\ C * (H * W) <= 16384 /\ H * W <= 16384 := by
 have hm := validL_mem h
 have c1 := (hm _ (by simp : (C : Int) ∈ _)).1
 have h1 := (hm _ (by simp : (H : Int) ∈ _)).1
 have w1 := (hm _ (by simp : (W : Int) ∈ _)).1
 have h3 := validL_three h
 exact ⟨by omega, by omega, by omega, h3, Nat.le_trans (Nat.le_mul_of_pos_left _ (by omega)) h3⟩
theorem valid3_of {H W : Nat} (h1 : 1 <= H) (w1 : 1 <= W) (h : H * W <= 16384) : validL [(1 : Int), (H : Int), (W : Int)] = true := by
 have hH : H <= H * W := Nat.le_mul_of_pos_right _ w1
 have hW : W <= H * W := Nat.le_mul_of_pos_left _ h1
 have hp : (H : Int) * (W : Int) <= 16384 := by rw [<- Int.natCast_mul]; omega
 unfold validL
 rw [validFrom_yes (by omega) (by omega) (by omega), validFrom_yes (by omega) (by omega) (by omega), validFrom_yes (by omega) (by omega) (by rw [Int.one_mul, Int.one_mul]; omega)]
 rfl
theorem pt_ok {b : RatL} {ws : List RatL} (hb : validR b = true) (hw : ws.all validR = true) (h1 : 0 < ws.length) (h2 : ws.length <= 16384) (i : Int) : layOK (ptL b ws) i = true := by
 unfold layOK condL
 rw [if_neg (show ¬ (ptL b ws).kind = 1 from by show ¬ (2 : Int) = 1; decide), if_pos (show (ptL b ws).kind = 2 from rfl)]
 have hn : numsB (ptL b ws) = true := by
  unfold numsB
  show (ws.all validR && [b].all validR) = true
  simp [hw, hb]
 have hwg : wgtB (ptL b ws) ((1 : Int) * 1 * 1) = true := by
  unfold wgtB
  show (decide ((1 : Int) = 1) && (decide (0 < ws.length) && (decide (ws.length <= 16384) && decide ((ws.length : Int) % ((1 : Int) * 1 * 1) = 0)))) = true
  rw [decide_eq_true h1, decide_eq_true h2, decide_eq_true (show (ws.length : Int) % ((1 : Int) * 1 * 1) = 0 by omega)]
  rfl
 unfold kerB outB
 show (((decide ((1 : Int) <= 1) && decide ((1 : Int) <= 16384)) && ((sidB 1 && (sidB 1 && sidB 1)) && (decide ((0 : Int) <= 0) && (decide ((0 : Int) < 1) && (decide ((0 : Int) < 1) && (wgtB (ptL b ws) ((1 : Int) * 1 * 1) && decide ((0 : Int) = 0))))))) && numsB (ptL b ws)) = true
 rw [hn, hwg, sid3 (by omega)]
 rfl
theorem pt_win {C H W : Nat} (h : validL [(C : Int), (H : Int), (W : Int)] = true) : windowsL [(C : Int), (H : Int), (W : Int)] 1 1 1 0 = ((Win.mk C H W 1 1 1 0).all, (H : Int), (W : Int), 0) /\ (Win.mk C H W 1 1 1 0).Ok /\ (Win.mk C H W 1 1 1 0).R = H /\ (Win.mk C H W 1 1 1 0).Q = W := by
 obtain ⟨c1, h1, w1, ht, _⟩ := valid3 h
 have ha : argBad [(C : Int), (H : Int), (W : Int)] 1 1 1 0 = false := by unfold argBad; rw [h]; rfl
 have hs : shapeBad [(C : Int), (H : Int), (W : Int)] 1 1 0 = false := by
  unfold shapeBad
  simp
  omega
 have he : winOf [(C : Int), (H : Int), (W : Int)] 1 1 1 0 = Win.mk C H W 1 1 1 0 := by simp [winOf]
 obtain ⟨q, hq, e, _⟩ := winOf_ok ha hs
 rw [he] at e
 rw [<- e] at hq
 obtain ⟨u1, u2, u3, _⟩ := Win.units hq rfl rfl rfl rfl
 refine ⟨?_, hq, u1, u2⟩
 rw [windowsL_ok ha hs (by rw [he, u3]; show ¬ 262144 < H * W * C; rw [Nat.mul_comm]; omega), he, u1, u2]
theorem pt_one {C H W i : Nat} (hq : (Win.mk C H W 1 1 1 0).Ok) (hi : i < H * W) : (Win.mk C H W 1 1 1 0).all.getD i [] = ixP C (H * W) i := by
 obtain ⟨u1, u2, u3, u4⟩ := Win.units hq rfl rfl rfl rfl
 have hl := (Win.mk C H W 1 1 1 0).all_len
 rw [u1, u2] at hl
 obtain ⟨_, _, _, hg⟩ := (Win.mk C H W 1 1 1 0).all_pos (i := i) (by rw [hl]; exact hi)
 rw [u2] at hg
 rw [getD_of hg]
 have hlen := (Win.mk C H W 1 1 1 0).one_len (i / W) (i % W)
 refine List.ext_getElem? fun k => ?_
 by_cases hk : k < C
 ·have e1 : (Win.mk C H W 1 1 1 0).one (i / W) (i % W) = (Win.mk C H W 1 1 1 0).one (i / (Win.mk C H W 1 1 1 0).W) (i % (Win.mk C H W 1 1 1 0).W) := rfl
  rw [e1, u4 hi hk, ixP, List.getElem?_map, List.getElem?_range hk]
  simp
 ·rw [List.getElem?_eq_none (by rw [hlen]; simp; omega), List.getElem?_eq_none (by rw [ixP_len]; omega)]
def ptQ (b : Rat) (ws : List Rat) (C A : Nat) (y : List Rat) : List Rat := (List.range A).map fun i => sumQ b ws 0 (ixP C A i) y
theorem pt_run {m : ModL} {b : RatL} {ws : List RatL} (hb : validR b = true) (hw : ws.all validR = true) (x : List Rat) (hl : m.layers.length <= 8) (h : (shapesL m).2.2 = 0) {C H W : Nat} (hc : currL m.input (shapesL m).1 = [(C : Int), (H : Int), (W : Int)]) (hC : ws.length = C) :
  runL ⟨m.input, m.layers ++ [ptL b ws]⟩ x = (if (x.length : Int) = sizeL m.input then ((ptQ (ratOf b) (ws.map ratOf) C (H * W) (currQ x (traceQ m x))).map ratL, 0) else ([], 11)) := by
 obtain ⟨T, hf⟩ := fits_of x h
 obtain ⟨v1, v2, _⟩ := hf.valid
 rw [hf.sh] at hc
 simp only at hc
 have hv := curr_ok v1 v2
 rw [hc] at hv
 obtain ⟨c1, h1, w1, ht, ha⟩ := valid3 hv
 obtain ⟨hwin, hq, hR, hQ⟩ := pt_win hv
 have hCl : C <= 16384 := Nat.le_trans (Nat.le_mul_of_pos_right _ (Nat.mul_pos h1 w1)) ht
 have k1 := pt_ok hb hw (by omega) (by omega)
 have hraw : rawL m.input T (ptL b ws) = ([(1 : Int), (H : Int), (W : Int)], true) := by
  unfold rawL
  rw [if_neg (show ¬ (ptL b ws).kind = 1 from by show ¬ (2 : Int) = 1; decide), if_pos (show (ptL b ws).kind = 2 from rfl), hc]
  unfold winsL
  show ([(1 : Int), (windowsL [(C : Int), (H : Int), (W : Int)] 1 1 1 0).2.1, (windowsL [(C : Int), (H : Int), (W : Int)] 1 1 1 0).2.2.1], decide ((windowsL [(C : Int), (H : Int), (W : Int)] 1 1 1 0).2.2.2 = 0) && decide ((ws.length : Int) = 1 * (C : Int) * 1 * 1)) = _
  rw [hwin, hC]
  simp
 have ho : outSL m.input T (ptL b ws) = ([(1 : Int), (H : Int), (W : Int)], 0) := by
  rw [outSL_fit v1 (by rw [hf.ch.1]; omega) (k1 _) v2, hraw]
  simp only [Bool.true_and]
  rw [if_pos (valid3_of h1 w1 ha)]
 have f1 := hf.app (by omega) ho
 have hlay : ∀ y z : List Rat, layQ (ptL b ws) (currL m.input T) y z = ptQ (ratOf b) (ws.map ratOf) C (H * W) y := by
  intro y z
  unfold layQ
  rw [if_neg (show ¬ (ptL b ws).kind = 1 from by show ¬ (2 : Int) = 1; decide), if_pos (show (ptL b ws).kind = 2 from rfl), hc]
  show convQ 1 [ratOf b] (ws.map ratOf) (C * 1 * 1) (windowsL [(C : Int), (H : Int), (W : Int)] 1 1 1 0).1 y = _
  rw [hwin]
  simp only [Nat.mul_one]
  unfold convQ ptQ
  simp only [show List.range 1 = [0] from rfl, List.flatMap_cons, List.flatMap_nil, List.append_nil]
  rw [Win.all_len, hR, hQ]
  refine List.map_congr_left fun i hi => ?_
  unfold convAt
  rw [Nat.zero_mul, partL_all (by rw [List.length_map, hC]), pt_one hq (List.mem_range.1 hi)]
  rfl
 rw [runL_eq, f1.sh, if_pos rfl, f1.tr, currQ_snoc, hlay]
theorem chan_le {m : ModL} {T : List (List Int)} (hc : Chain m.input [] T m.layers) (hv : validL m.input = true) (hin : sizeL m.input <= 30) (hb : ∀ l ∈ m.layers, l.bias.length <= 60) : ∀ j, j <= T.length -> ∀ C H W : Nat, currL m.input (T.take j) = [(C : Int), (H : Int), (W : Int)] -> C <= 60 := by
 intro j
 induction j with
 | zero =>
  intro _ C H W h
  have h : m.input = [(C : Int), (H : Int), (W : Int)] := h
  rw [h] at hv
  obtain ⟨c1, h1, w1, _, _⟩ := valid3 hv
  rw [h, sizeL, if_pos hv] at hin
  simp only [prodFrom, Int.one_mul] at hin
  have : (((C * H * W : Nat)) : Int) <= 30 := by simpa using hin
  have h2 : C <= C * (H * W) := Nat.le_mul_of_pos_right _ (Nat.mul_pos h1 w1)
  rw [<- Nat.mul_assoc] at h2
  omega
 | succ j ih =>
  intro hj C H W h
  have hlt : j < T.length := by omega
  have e : T.take (j + 1) = T.take j ++ [T[j]] := by rw [List.take_add_one, List.getElem?_eq_getElem hlt]; rfl
  rw [e, currL_snoc] at h
  have hl2 : j < m.layers.length := by rw [<- hc.1]; exact hlt
  have ho := hc.2 j T[j] m.layers[j] (List.getElem?_eq_getElem hlt) (List.getElem?_eq_getElem hl2)
  rw [List.nil_append, h] at ho
  have hmem := List.getElem_mem hl2
  generalize m.layers[j] = l at ho hmem
  have hfit := (fit_of (by rw [ho])).1
  have hr : rawL m.input (T.take j) l = ([(C : Int), (H : Int), (W : Int)], true) := by
   rcases outSL_cases m.input (T.take j) l with ⟨k, _, _⟩ | ⟨_, ⟨k, _, _⟩ | ⟨_, k1, k2, _⟩⟩
   ·rw [ho] at k; simp at k
   ·rw [ho] at k; simp at k
   ·rw [ho] at k1; exact Prod.ext k1.symm k2
  unfold rawL at hr
  cases hfit with
  | dense R hk => rw [if_pos hk] at hr; simp at hr
  | conv q O hk hq ht hs e1 e2 e3 e4 ho' h1' hb' =>
   rw [if_neg (by omega), if_pos hk] at hr
   have : l.out = (C : Int) := by simp only [Prod.mk.injEq, List.cons.injEq] at hr; exact hr.1.1
   have := hb l hmem
   omega
  | pool q hk hq ht hs e1 e2 e3 e4 hp hwin =>
   rw [if_neg (by omega), if_neg (by omega), if_pos hk, hs] at hr
   have : (q.C : Int) = (C : Int) := by simp only [Prod.mk.injEq, List.cons.injEq] at hr; exact hr.1.1
   have := ih (by omega) q.C q.H q.W hs
   omega
  | keep hk =>
   rcases hk with hk | hk
   ·rw [if_neg (by omega), if_neg (by omega), if_neg (by omega), if_neg (by omega), if_neg (by omega)] at hr
    exact ih (by omega) C H W (by simp only [Prod.mk.injEq] at hr; exact hr.1)
   ·rw [if_neg (by omega), if_neg (by omega), if_neg (by omega), if_pos hk] at hr
    simp at hr
  | add hk =>
   rw [if_neg (by omega), if_neg (by omega), if_neg (by omega), if_neg (by omega), if_pos hk] at hr
   exact ih (by omega) C H W (by simp only [Prod.mk.injEq] at hr; exact hr.1)
theorem pt_extra {b : RatL} {ws : List RatL} (h : littleL (b :: ws) = true) (hC : ws.length <= 60) : LayRange (ptL b ws) /\ LayLe (ptL b ws) /\ SmallL (ptL b ws) := by
 have hle := little_le h
 have hs := (little_back h).2
 refine ⟨by unfold LayRange I64 ptL; simp, ⟨fun x hx => hle x (List.mem_cons_of_mem _ hx), fun x hx => ?_⟩, ⟨fun q hq => hs q ?_, ?_⟩⟩
 ·have : x = b := by simpa [ptL] using hx
  rw [this]
  exact hle b (by simp)
 ·rcases List.mem_append.1 hq with k | k
  ·exact List.mem_cons_of_mem _ k
  ·have : q = ratOf b := by simpa [ptL, bq] using k
   rw [this]; simp
 ·show (ws.map ratOf ++ [b].map ratOf).length <= 480
  simp
  omega
theorem pt_room {m : ModL} {L ws : List RatL} {b : RatL} (hp : Paid m L) (h : (shapesL m).2.2 = 0) (hx : (L.length : Int) = sizeL m.input) {C H W : Nat} (hc : currL m.input (shapesL m).1 = [(C : Int), (H : Int), (W : Int)])
  (hsm : SmallL (ptL b ws)) : (currQ (L.map ratOf) (traceQ m (L.map ratOf))).length = C * (H * W) /\ (∀ q ∈ currQ (L.map ratOf) (traceQ m (L.map ratOf)), RatLe (ratL q) 524285) /\
   (∀ p ∈ ws.map ratOf, RatLe (ratL p) 524285) /\ (∀ p ∈ ws.map ratOf, ∀ q ∈ currQ (L.map ratOf) (traceQ m (L.map ratOf)), RatLe (ratL (p * q)) 524285) /\
   (∀ i k, k <= 262144 -> RatLe (ratL (psum (ratOf b) (ws.map ratOf) 0 (ixP C (H * W) i) (currQ (L.map ratOf) (traceQ m (L.map ratOf))) k)) 524285) := by
 obtain ⟨D, hD, hB, hRm⟩ := hp.room
 have hl := hp.lens
 have hR' : RoomK ((12 - m.layers.length) + m.layers.length) D 18446744073709551616 := by rw [Nat.sub_add_cancel (by omega)]; exact hRm
 have hx' : ((L.map ratOf).length : Int) = sizeL m.input := by rw [List.length_map]; exact hx
 rcases traceL_inv (m := m) hR' hB hD (by omega) hp.sm with ⟨k, _⟩ | ⟨T, D', B', hch, hv, hT, _, _, hTr, hRk⟩
 ·unfold traceL at k
  rw [if_pos h, if_pos hx'] at k
  exact absurd rfl k
 ·obtain ⟨hlen, hbd⟩ := hTr.curr
  rw [hT] at hc
  simp only at hc
  rw [hc] at hlen
  generalize currQ (L.map ratOf) (traceQ m (L.map ratOf)) = y at *
  have hR := hRk.now
  have hD' := hTr.hD
  have hB' := hTr.hB
  have hy0 : y.length = C * (H * W) := by
   have hvl : validL [(C : Int), (H : Int), (W : Int)] = true := by
    have hvi : validL m.input = true := by unfold validM at hv; simp only [Bool.and_eq_true] at hv; exact hv.1
    have := curr_ok hvi hch.valid
    rw [hc] at this
    exact this
   rw [sizeL, if_pos hvl] at hlen
   simp only [prodFrom, Int.one_mul] at hlen
   rw [<- Nat.mul_assoc]
   exact Int.ofNat_inj.1 (by rw [hlen]; simp)
  have pp : D' * 1 <= D' * WQ := Nat.mul_le_mul_left _ one_le_WQ
  rw [Nat.mul_one] at pp
  obtain ⟨Wd, w1, w2, w3⟩ := BdL.small _ hsm.num
  have hwW : BdL Wd 18446744073709551616 (ws.map ratOf) := fun q hq => w3 q (List.mem_append_left _ hq)
  have hbW : Bd Wd 18446744073709551616 (ratOf b) := w3 _ (List.mem_append_right _ (by simp [ptL, bq]))
  have hWD : Wd * D' <= D' * WQ := by
   rw [Nat.mul_comm]
   exact Nat.mul_le_mul_left _ (le_WQ w2 hsm.len)
  have hWD1 : Wd <= Wd * D' := Nat.le_mul_of_pos_right _ hD'
  refine ⟨hy0, fun q hq => hR.bd (hbd q hq) pp (by omega), fun p hp => hR.bd (hwW p hp) (by omega) (by omega), fun p hp q hq => hR.bd ((hwW p hp).mul (hbd q hq)) hWD (by omega), fun i k hk => ?_⟩
  exact hR.bd (Bd.psum hbW hwW hbd hD' 0 _ k) hWD (grow_le hk hB')
end Go.Proofs.YtoppijdedkdjeaaGreat

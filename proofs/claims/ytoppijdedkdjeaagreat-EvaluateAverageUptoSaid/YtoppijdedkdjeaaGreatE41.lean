/-
  Contracts of the functions that the statement reaches: LwK, LwM, LwN.
-/
import Derived.Test.YtoppijdedkdjeaaGreatE40
set_option linter.unusedVariables false
set_option linter.unusedSimpArgs false
set_option linter.constructorNameAsVariable false
set_option linter.deprecated false
set_option maxRecDepth 100000
set_option maxHeartbeats 3200000
namespace Go.Proofs.YtoppijdedkdjeaaGreat
open Go.RowKit
open Go.Lib (hid)
def imgB (m : ModL) : Bool := decide ((shapesL m).2.2 = 0) && decide ((currL m.input (shapesL m).1).length = 3)
def ImgPost (w : World) (m : ModL) (e : Ending) (w' : World) : Prop := ∃ a c, e = .returned (.tuple #[.slice a (currL m.input (shapesL m).1).length c, .bool (imgB m)]) /\ Ints w' Any a (currL m.input (shapesL m).1) /\ Below w.heap.size w w'
theorem kImage {w : World} {m : ModL} {a1 a2 : Option Addr} (c1 c2 : Nat) (h1 : Ints w Any a1 m.input) (h2 : LaysAt w a2 m.layers) (hr : ∀ l ∈ m.layers, LayRange l) (hs : ∀ l ∈ m.layers, LayLe l) :
  Calls Tryz.prog 21 #[.agg #[.slice a1 m.input.length c1, .slice a2 m.layers.length c2]] w (ImgPost w m) := by
 have q1 := h1.len
 have q2 := h2.len
 have hal : Below w.heap.size w (w.alloc (.cells #[.slice a1 m.input.length c1, .slice a2 m.layers.length c2] 25)) := (Below.refl _ _).alloc (Nat.le_refl _) _
 have hx := Box2.alloc w (.slice a1 m.input.length c1) (.slice a2 m.layers.length c2) 25
 have HO := hid (r13Of c1 c2 (h1.below hal) (h2.below hal) hr hs)
 have H1 := hid h1
 have HB := hid hal
 obtain ⟨P, hP⟩ : ∃ P, P = shapesL m := ⟨_, rfl⟩
 rw [<- hP] at HO
 have HP := hid hP
 clear h1 h2 hr hs hal hP
 go_enter Tryz.func21, Tryz.ntmps21
 go_upto_region 1 with fail
 generalize w.alloc (.cells #[.slice a1 m.input.length c1, .slice a2 m.layers.length c2] 25) = W at *
 have HX := hid hx
 obtain ⟨x0, x1, xf, xlt⟩ := hx
 obtain ⟨T, i, er⟩ := P
 go_wp2_with fail
 refine HO.out.mono ?_
 rintro e w3 ⟨⟨a, c, rfl, hT⟩, hb3⟩
 have HB3 := hid (HB.out.trans (hb3.mono HB.out.size))
 have HT := hid (hT.mono (F' := Any) (fun _ _ _ => trivial))
 simp only at hT ⊢
 have HI1 := hid (H1.out.below HB3.out)
 clear hb3 hT HO x0 x1 xf xlt HX
 obtain ⟨b, hb⟩ : ∃ b, b = imgB m := ⟨_, rfl⟩
 have hPost : ∀ (w' : World) (a' : Option Addr) (c' : Nat), Below w.heap.size w w' -> Ints w' Any a' (currL m.input (shapesL m).1) -> ImgPost w m (.returned (.tuple #[.slice a' (currL m.input (shapesL m).1).length c', .bool b])) w' := fun w' a' c' hb' hI => ⟨a', c', by rw [hb], hI, hb'⟩
 have HPost := hid hPost
 have hbv : b = (decide (er = 0) && decide ((currL m.input T).length = 3)) := by rw [hb]; unfold imgB; rw [<- HP.out]
 rw [show (shapesL m).1 = T by rw [<- HP.out]] at HPost
 have HBv := hid hbv
 have hTl := HT.out.len
 simp only at hTl
 clear hb hPost hbv
 by_cases hz : T = []
 ·subst hz
  have hc : currL m.input [] = m.input := rfl
  rw [hc] at HPost HBv
  clear hc
  by_cases h0 : er = 0
  ·have t1 : (er == 0) = true := by simp [h0]
   by_cases h3 : m.input.length = 3
   ·have HV : Hid (b = true) := by unfold Hid; rw [HBv.out, decide_eq_true h0, decide_eq_true h3]; rfl
    have t2 : ((m.input.length : Int) == 3) = true := by rw [h3]; rfl
    rw [HV.out] at HPost
    clear h0 h3
    go_wp2
    refine bodyPost_ret (results_tmp2 rfl _ _ _) rfl ?_
    exact HPost.out _ a1 c1 HB3.out HI1.out
   ·have HV : Hid (b = false) := by unfold Hid; rw [HBv.out, decide_eq_false h3, Bool.and_false]
    have t2 : ((m.input.length : Int) == 3) = false := by rw [beq_eq_false_iff_ne]; omega
    rw [HV.out] at HPost
    clear h0 h3
    go_wp2
    refine bodyPost_ret (results_tmp2 rfl _ _ _) rfl ?_
    exact HPost.out _ a1 c1 HB3.out HI1.out
  ·have HV : Hid (b = false) := by unfold Hid; rw [HBv.out, decide_eq_false h0]; rfl
   have t1 : (er == 0) = false := by rw [beq_eq_false_iff_ne]; exact h0
   rw [HV.out] at HPost
   clear h0
   go_wp2
   refine bodyPost_ret (results_tmp2 rfl _ _ _) rfl ?_
   exact HPost.out _ a1 c1 HB3.out HI1.out
 ·obtain ⟨j, hj⟩ : ∃ j, T.length = j + 1 := ⟨T.length - 1, by have := List.length_pos_iff.2 hz; omega⟩
  obtain ⟨bT, oT, s, aT, ct, haT, tc0, hTi, htc, hIt, hbT, _⟩ := HT.out.pickc (k := j) (by simp only; omega)
  simp only at hTi
  have hc : currL m.input T = s := by
   unfold currL
   rw [List.getLast?_eq_getElem?, hj, show j + 1 - 1 = j by omega, hTi]
   rfl
  rw [hc] at HPost HBv
  obtain ⟨nT, hnT⟩ : ∃ nT, nT = T.length := ⟨_, rfl⟩
  rw [<- hnT] at hTl hj ⊢
  have m0 : (nT : Int) - 1 = (j : Int) := by omega
  have t0 : decide ((0 : Int) < (nT : Int)) = true := decide_eq_true (by omega)
  have hjn : j < nT := by omega
  have HIt := hid hIt
  subst haT
  clear hc hTi hIt hnT hj hz
  by_cases h0 : er = 0
  ·have t1 : (er == 0) = true := by simp [h0]
   by_cases h3 : s.length = 3
   ·have HV : Hid (b = true) := by unfold Hid; rw [HBv.out, decide_eq_true h0, decide_eq_true h3]; rfl
    have t2 : ((s.length : Int) == 3) = true := by rw [h3]; rfl
    rw [HV.out] at HPost
    clear h0 h3
    go_wp2
    refine bodyPost_ret (results_tmp2 rfl _ _ _) rfl ?_
    exact HPost.out _ aT ct HB3.out HIt.out
   ·have HV : Hid (b = false) := by unfold Hid; rw [HBv.out, decide_eq_false h3, Bool.and_false]
    have t2 : ((s.length : Int) == 3) = false := by rw [beq_eq_false_iff_ne]; omega
    rw [HV.out] at HPost
    clear h0 h3
    go_wp2
    refine bodyPost_ret (results_tmp2 rfl _ _ _) rfl ?_
    exact HPost.out _ aT ct HB3.out HIt.out
  ·have HV : Hid (b = false) := by unfold Hid; rw [HBv.out, decide_eq_false h0]; rfl
   have t1 : (er == 0) = false := by rw [beq_eq_false_iff_ne]; exact h0
   rw [HV.out] at HPost
   clear h0
   go_wp2
   refine bodyPost_ret (results_tmp2 rfl _ _ _) rfl ?_
   exact HPost.out _ aT ct HB3.out HIt.out
theorem repl_getD {n k : Nat} {p : Rat} (h : k < n) : (List.replicate n p).getD k 0 = p := by
 rw [List.getD_eq_getElem?_getD, List.getElem?_replicate, if_pos h]; rfl
theorem partL_all {α : Type} {l : List α} {n : Nat} (h : l.length = n) : partL l 0 n = l := by
 unfold partL
 rw [List.drop_zero, List.take_of_length_le (by omega)]
theorem psum_mean {ix : List Int} {x : List Rat} {n : Nat} {p : Rat} (hl : ix.length = n) (hnn : ∀ i ∈ ix, 0 <= i) : ∀ k, k < n -> psum 0 (List.replicate n p) 0 ix x (k + 1) = p * padd (valsQ ix x) k := by
 have term : ∀ k, k < n -> termQ (List.replicate n p) 0 ix x k = p * (valsQ ix x).getD k 0 := by
  intro k hk
  have hm : ix.getD k 0 ∈ ix := by rw [List.getD_eq_getElem?_getD, List.getElem?_eq_getElem (by omega)]; exact List.getElem_mem _
  have h0 := hnn _ hm
  unfold termQ
  rw [if_pos h0, Nat.zero_add, repl_getD hk]
  have : (valsQ ix x).getD k 0 = x.getD (ix.getD k 0).toNat 0 := by
   unfold valsQ
   rw [List.getD_eq_getElem?_getD, List.getElem?_map, List.getD_eq_getElem?_getD (l := ix), List.getElem?_eq_getElem (by omega : k < ix.length)]
   rfl
  rw [this]
 intro k
 induction k with
 | zero =>
  intro hk
  show (0 : Rat) + termQ (List.replicate n p) 0 ix x 0 = p * (valsQ ix x).getD 0 0
  rw [term 0 hk, Rat.zero_add]
 | succ k ih =>
  intro hk
  show psum 0 (List.replicate n p) 0 ix x (k + 1) + termQ (List.replicate n p) 0 ix x (k + 1) = p * (padd (valsQ ix x) k + (valsQ ix x).getD (k + 1) 0)
  rw [ih (by omega), term (k + 1) hk, Rat.mul_add]
theorem mean_sum {ix : List Int} {x : List Rat} {n : Nat} (hl : ix.length = n) (h1 : 1 <= n) (hnn : ∀ i ∈ ix, 0 <= i) : sumQ 0 (List.replicate n (1 / ((n : Int) : Rat))) 0 ix x = avgL (valsQ ix x) := by
 obtain ⟨k, rfl⟩ : ∃ k, n = k + 1 := ⟨n - 1, by omega⟩
 unfold sumQ avgL
 rw [hl, psum_mean hl hnn k (by omega), valsQ_len, hl, show k + 1 - 1 = k by omega, Rat.div_def, Rat.div_def, Rat.one_mul, Rat.mul_comm]
def avL (kh kw st : Int) : LayL := ⟨4, 0, 0, kh, kw, st, 0, [], []⟩
def cvL (kh kw st : Int) (ws : List RatL) : LayL := ⟨2, 0, 1, kh, kw, st, 0, ws, [ratL 0]⟩
def wsL (n : Nat) : List RatL := List.replicate n (ratL (1 / ((n : Int) : Rat)))
theorem sid3 {k : Int} (h : 1 <= k /\ k <= 3) : sidB k = true := by unfold sidB; rw [decide_eq_true h.1, decide_eq_true (by omega)]; rfl
theorem av_ok {kh kw st : Int} (h1 : 1 <= kh /\ kh <= 3) (h2 : 1 <= kw /\ kw <= 3) (h3 : 1 <= st /\ st <= 3) (i : Int) : layOK (avL kh kw st) i = true := by
 unfold layOK condL
 rw [if_neg (show ¬ (avL kh kw st).kind = 1 from by show ¬ (4 : Int) = 1; decide), if_neg (show ¬ (avL kh kw st).kind = 2 from by show ¬ (4 : Int) = 2; decide), if_pos (show (avL kh kw st).kind = 3 ∨ (avL kh kw st).kind = 4 from .inr rfl)]
 unfold kerB
 show (((sidB kh && (sidB kw && sidB st)) && (decide ((0 : Int) = 0 /\ (0 : Int) = 0 /\ (0 : Int) = 0) && noneB (avL kh kw st))) && numsB (avL kh kw st)) = true
 rw [sid3 h1, sid3 h2, sid3 h3]
 rfl
theorem cv_ok {a b : Nat} {st : Int} (h1 : 1 <= a /\ a <= 3) (h2 : 1 <= b /\ b <= 3) (h3 : 1 <= st /\ st <= 3) (i : Int) : layOK (cvL a b st (wsL (a * b))) i = true := by
 unfold layOK condL
 rw [if_neg (show ¬ (cvL a b st (wsL (a * b))).kind = 1 from by show ¬ (2 : Int) = 1; decide), if_pos (show (cvL a b st (wsL (a * b))).kind = 2 from rfl)]
 have hn : numsB (cvL a b st (wsL (a * b))) = true := by
  unfold numsB
  show ((wsL (a * b)).all validR && [ratL 0].all validR) = true
  simp [wsL, validR_ratL]
 have hab1 : 0 < a * b := Nat.mul_pos (by omega) (by omega)
 have hab2 : a * b <= 3 * 3 := Nat.mul_le_mul h1.2 h2.2
 have hw : wgtB (cvL a b st (wsL (a * b))) ((1 : Int) * (a : Int) * (b : Int)) = true := by
  unfold wgtB
  show (decide ((1 : Int) = 1) && (decide (0 < (wsL (a * b)).length) && (decide ((wsL (a * b)).length <= 16384) && decide (((wsL (a * b)).length : Int) % ((1 : Int) * (a : Int) * (b : Int)) = 0)))) = true
  have hl : (wsL (a * b)).length = a * b := by simp [wsL]
  rw [hl, decide_eq_true (show 0 < a * b from hab1), decide_eq_true (show a * b <= 16384 by omega), decide_eq_true (show ((a * b : Nat) : Int) % ((1 : Int) * (a : Int) * (b : Int)) = 0 by rw [Int.one_mul, Int.natCast_mul]; exact Int.emod_self)]
  rfl
 unfold kerB outB
 show (((decide ((1 : Int) <= 1) && decide ((1 : Int) <= 16384)) && ((sidB (a : Int) && (sidB (b : Int) && sidB st)) && (decide ((0 : Int) <= 0) && (decide ((0 : Int) < (a : Int)) && (decide ((0 : Int) < (b : Int)) && (wgtB (cvL a b st (wsL (a * b))) ((1 : Int) * (a : Int) * (b : Int)) && decide ((0 : Int) = 0))))))) && numsB (cvL a b st (wsL (a * b)))) = true
 rw [hn, hw, sid3 (by omega), sid3 (by omega), sid3 h3, decide_eq_true (show (0 : Int) < (a : Int) by omega), decide_eq_true (show (0 : Int) < (b : Int) by omega)]
 rfl
theorem avg_run {m : ModL} {a b : Nat} {st : Int} (h1 : 1 <= a /\ a <= 3) (h2 : 1 <= b /\ b <= 3) (h3 : 1 <= st /\ st <= 3) (x : List Rat) (hl : m.layers.length <= 8) (h : (shapesL m).2.2 = 0) (hc : (currL m.input (shapesL m).1).getD 0 0 = 1) :
  runL ⟨m.input, m.layers ++ [avL a b st]⟩ x = runL ⟨m.input, m.layers ++ [cvL a b st (wsL (a * b))]⟩ x := by
 obtain ⟨T, hf⟩ := fits_of x h
 obtain ⟨v1, v2, _⟩ := hf.valid
 rw [hf.sh] at hc
 simp only at hc
 have k1 := av_ok (kh := a) (kw := b) (by omega) (by omega) h3
 have k2 := cv_ok h1 h2 h3
 have hwl : (wsL (a * b)).length = a * b := by simp [wsL]
 have hraw : rawL m.input T (avL a b st) = rawL m.input T (cvL a b st (wsL (a * b))) := by
  unfold rawL
  rw [if_neg (show ¬ (avL a b st).kind = 1 from by show ¬ (4 : Int) = 1; decide), if_neg (show ¬ (avL a b st).kind = 2 from by show ¬ (4 : Int) = 2; decide), if_pos (show (avL a b st).kind = 3 ∨ (avL a b st).kind = 4 from .inr rfl),
   if_neg (show ¬ (cvL a b st (wsL (a * b))).kind = 1 from by show ¬ (2 : Int) = 1; decide), if_pos (show (cvL a b st (wsL (a * b))).kind = 2 from rfl), hc]
  show _ = ([(1 : Int), _, _], decide _ && decide (((wsL (a * b)).length : Int) = 1 * 1 * (a : Int) * (b : Int)))
  rw [hwl, decide_eq_true (show ((a * b : Nat) : Int) = 1 * 1 * (a : Int) * (b : Int) by simp), Bool.and_true]
  rfl
 have ho : outSL m.input T (avL a b st) = outSL m.input T (cvL a b st (wsL (a * b))) := by
  rw [outSL_fit v1 (by rw [hf.ch.1]; omega) (k1 _) v2, outSL_fit v1 (by rw [hf.ch.1]; omega) (k2 _) v2, hraw]
 by_cases hp : (outSL m.input T (avL a b st)).2 = 0
 ·obtain ⟨s, hs⟩ : ∃ s, outSL m.input T (avL a b st) = (s, 0) := ⟨(outSL m.input T (avL a b st)).1, by rw [<- hp]⟩
  have f1 := hf.app (by omega) hs
  have f2 := hf.app (l := cvL a b st (wsL (a * b))) (by omega) (by rw [<- ho]; exact hs)
  have hfit := (fit_of hp).1
  have hQ : layQ (avL a b st) (currL m.input T) (currQ x (traceQ m x)) (fromQ x (traceQ m x) (avL a b st).frm) = layQ (cvL a b st (wsL (a * b))) (currL m.input T) (currQ x (traceQ m x)) (fromQ x (traceQ m x) (cvL a b st (wsL (a * b))).frm) := by
   generalize currQ x (traceQ m x) = y
   cases hfit with
   | pool q hk hq ht hs' e1 e2 e3 e4 hp0 hwin hz =>
    have hC : q.C = 1 := by rw [hs'] at hc; simp at hc; omega
    have ek : q.kh = a := Int.ofNat_inj.1 e1.symm
    have ew : q.kw = b := Int.ofNat_inj.1 e2.symm
    have hw0 : windowsL (currL m.input T) (a : Int) (b : Int) st 0 = (q.all, (q.R : Int), (q.Q : Int), 0) := hwin
    have hw : wq (cvL a b st (wsL (a * b))) = List.replicate (a * b) (1 / (((a * b : Nat) : Int) : Rat)) := by
     show (wsL (a * b)).map ratOf = _
     simp [wsL, ratOf_ratL]
    have hb : bq (cvL a b st (wsL (a * b))) = [0] := by
     show [ratL 0].map ratOf = _
     simp [ratOf_ratL]
    unfold layQ
    rw [if_neg (show ¬ (avL a b st).kind = 1 from by show ¬ (4 : Int) = 1; decide), if_neg (show ¬ (avL a b st).kind = 2 from by show ¬ (4 : Int) = 2; decide), if_neg (show ¬ (avL a b st).kind = 3 from by show ¬ (4 : Int) = 3; decide), if_pos (show (avL a b st).kind = 4 from rfl),
     if_neg (show ¬ (cvL a b st (wsL (a * b))).kind = 1 from by show ¬ (2 : Int) = 1; decide), if_pos (show (cvL a b st (wsL (a * b))).kind = 2 from rfl), hc, hw, hb]
    show poolQ avgL (1 : Int).toNat ((a : Int).toNat * (b : Int).toNat) (windowsL (currL m.input T) (a : Int) (b : Int) st 0).1 y = convQ (1 : Int).toNat [0] _ ((1 : Int).toNat * (a : Int).toNat * (b : Int).toNat) (windowsL (currL m.input T) (a : Int) (b : Int) st 0).1 y
    rw [hw0]
    simp only [Int.toNat_natCast]
    show poolQ avgL 1 (a * b) q.all y = convQ 1 [0] _ (1 * a * b) q.all y
    rw [Nat.one_mul]
    unfold poolQ convQ
    simp only [show List.range 1 = [0] from rfl, List.flatMap_cons, List.flatMap_nil, List.append_nil]
    refine List.map_congr_left fun i hi => ?_
    have hi' := List.mem_range.1 hi
    unfold poolAt convAt
    have hmem : q.all.getD i [] ∈ q.all := by rw [List.getD_eq_getElem?_getD, List.getElem?_eq_getElem hi']; exact List.getElem_mem _
    have hlen : (q.all.getD i []).length = a * b := by rw [q.all_one_len' _ hmem, hC, ek, ew, Nat.one_mul]
    rw [Nat.zero_mul, partL_all hlen, partL_all (List.length_replicate ..), show ([0] : List Rat).getD 0 0 = 0 from rfl]
    exact (mean_sum hlen (Nat.mul_pos (by omega) (by omega)) (fun j hj => hq.all_nn hp0 _ hmem j hj)).symm
   | dense R hk => exact absurd hk (by show ¬ (4 : Int) = 1; decide)
   | conv q O hk => exact absurd hk (by show ¬ (4 : Int) = 2; decide)
   | keep hk => exact absurd hk (by show ¬ ((4 : Int) = 5 ∨ (4 : Int) = 6); decide)
   | add hk => exact absurd hk (by show ¬ (4 : Int) = 7; decide)
  rw [runL_eq, runL_eq, f1.sh, f2.sh, if_pos rfl, if_pos rfl, f1.tr, f2.tr, currQ_snoc, currQ_snoc, hQ]
 ·have h7 : (outSL m.input T (avL a b st)).2 = 7 := outSL_seven v1 (by rw [hf.ch.1]; omega) (k1 _) v2 hp
  have g1 := hf.fail (l := avL a b st) (by omega) h7
  have g2 := hf.fail (l := cvL a b st (wsL (a * b))) (by omega) (by rw [<- ho]; exact h7)
  try simp only at g1 g2
  rw [runL_eq, runL_eq, g1, g2]
  rfl
theorem av_extra {kh kw st : Int} (h1 : 1 <= kh /\ kh <= 3) (h2 : 1 <= kw /\ kw <= 3) (h3 : 1 <= st /\ st <= 3) : LayRange (avL kh kw st) /\ LayLe (avL kh kw st) /\ SmallL (avL kh kw st) :=
 ⟨by unfold LayRange I64 avL; simp; omega, ⟨by simp [avL], by simp [avL]⟩, ⟨by simp [avL, wq, bq], by simp [avL, wq, bq]⟩⟩
theorem part_small {n : Nat} (h1 : 1 <= n) (h2 : n <= 9) : (1 / ((n : Int) : Rat)).den <= 4294967296 /\ (1 / ((n : Int) : Rat)).num.natAbs <= 18446744073709551616 /\ RatLe (ratL (1 / ((n : Int) : Rat))) 1048576 := by
 have : n = 1 ∨ n = 2 ∨ n = 3 ∨ n = 4 ∨ n = 5 ∨ n = 6 ∨ n = 7 ∨ n = 8 ∨ n = 9 := by omega
 have key : (1 / ((n : Int) : Rat)).den <= 9 /\ (1 / ((n : Int) : Rat)).num.natAbs <= 1 := by
  rcases this with rfl | rfl | rfl | rfl | rfl | rfl | rfl | rfl | rfl <;> decide +kernel
 refine ⟨by omega, by omega, ⟨?_, ?_⟩⟩
 ·show (limbs (1 / ((n : Int) : Rat)).num.natAbs).length <= 1048576
  exact Nat.le_trans (limbs_len64 (by omega)) (by omega)
 ·show (if (1 / ((n : Int) : Rat)).den = 1 then [] else limbs (1 / ((n : Int) : Rat)).den).length <= 1048576
  split
  ·simp
  ·exact Nat.le_trans (limbs_len64 (by omega)) (by omega)
theorem cv_extra {a b : Nat} {st : Int} (h1 : 1 <= a /\ a <= 3) (h2 : 1 <= b /\ b <= 3) (h3 : 1 <= st /\ st <= 3) : LayRange (cvL a b st (wsL (a * b))) /\ LayLe (cvL a b st (wsL (a * b))) /\ SmallL (cvL a b st (wsL (a * b))) := by
 have hab1 : 1 <= a * b := Nat.mul_pos (by omega) (by omega)
 have hab2 : a * b <= 9 := Nat.le_trans (Nat.mul_le_mul h1.2 h2.2) (by omega)
 obtain ⟨p1, p2, p3⟩ := part_small hab1 hab2
 refine ⟨by unfold LayRange I64 cvL; simp; omega, ⟨fun x hx => ?_, fun x hx => ?_⟩, ⟨fun q hq => ?_, ?_⟩⟩
 ·have hx' : x ∈ wsL (a * b) := hx
  rw [List.eq_of_mem_replicate hx']
  exact p3
 ·have : x = ratL 0 := by simpa [cvL] using hx
  rw [this]
  exact (show RatLe (ratL 0) 524285 from ratLe_zero).mono (by omega)
 ·rcases List.mem_append.1 hq with k | k
  ·obtain ⟨y, hy, rfl⟩ := List.mem_map.1 k
   rw [List.eq_of_mem_replicate (show y ∈ wsL (a * b) from hy), ratOf_ratL]
   exact ⟨p1, p2⟩
  ·have : q = ratOf (ratL 0) := by simpa [cvL, bq] using k
   rw [this, ratOf_ratL]
   decide
 ·rw [List.length_append]
  show ((wsL (a * b)).map ratOf).length + ([ratL 0].map ratOf).length <= 480
  simp [wsL]
  omega
theorem OwnR.set {w : World} {base : Nat} {v : Value} {L : List RatL} (h : OwnR w base v L) {g : Nat} (hg : AllB isZ w g) (hb : g < base) (i : Nat) (u : Value) : OwnR (w.setCell ⟨g, i, none⟩ u) base v L := by
 obtain ⟨xs, ho, he⟩ := h.ex
 have hne : v.ownBlock ≠ some g := fun e => by have := (ho.lt g e).1; omega
 refine ⟨⟨xs, ownsRow_setCell_other ho hne u, fun j x hj => ?_⟩, fun k hk o z e => ?_⟩
 ·obtain ⟨an, ad, cn, cd, e0, e1, e2, l1, l2, u1, u2⟩ := he j x hj
  exact ⟨an, ad, cn, cd, e0, e1, e2, l1, l2, u1.setCell hg.noInt _ _, u2.setCell hg.noInt _ _⟩
 ·have hgk : g ≠ k := fun e => hne (by rw [e]; exact hk)
  exact h.no k hk o z ((far2 hgk).symm.trans e)
structure CvSt (W5 wr : World) (g : Nat) (v : Value) (k : Nat) (p : RatL) (f : Nat -> Value) : Prop where
 box : BoxF wr g 9 f
 ai : AllB isZ wr g
 own : OwnR wr (g + 1) v (List.replicate k p)
 bl : Below g W5 wr
theorem BoxF.below {W W' : World} {g n : Nat} {f : Nat -> Value} (h : BoxF W g n f) (hb : Below W.heap.size W W') : BoxF W' g n f :=
 ⟨fun i hi => (hb.cell (p := ⟨g, i, none⟩) h.lt).trans (h.c i hi), fun i => (hb.frozen (p := ⟨g, i, none⟩) h.lt).trans (h.free i), Nat.lt_of_lt_of_le h.lt hb.size⟩
def cvF (a b : Nat) (st : Int) (gb : Nat) (v : Value) (i : Nat) : Value := (#[.int .i64 2, .int .i64 0, .int .i64 1, .int .i64 (a : Int), .int .i64 (b : Int), .int .i64 st, .int .i64 0, v, .slice (some ⟨gb, 0, none⟩) 1 1] : Array Value).getD i undef
theorem all9 {P : Nat -> Prop} (h0 : P 0) (h1 : P 1) (h2 : P 2) (h3 : P 3) (h4 : P 4) (h5 : P 5) (h6 : P 6) (h7 : P 7) (h8 : P 8) : ∀ i, i < 9 -> P i := by
 intro i hi
 have : i = 0 ∨ i = 1 ∨ i = 2 ∨ i = 3 ∨ i = 4 ∨ i = 5 ∨ i = 6 ∨ i = 7 ∨ i = 8 := by omega
 rcases this with rfl | rfl | rfl | rfl | rfl | rfl | rfl | rfl | rfl <;> assumption
theorem CvSt.app {W5 wr w' : World} {g k : Nat} {v v' : Value} {p : RatL} {a b : Nat} {st : Int} {gb : Nat} (h : CvSt W5 wr g v k p (cvF a b st gb v)) (hb : Below (g + 1) wr w') (ho : OwnR w' (g + 1) v' (List.replicate (k + 1) p)) (hv : isZ v' = true) :
  CvSt W5 (w'.setCell ⟨g, 7, none⟩ v') g v' (k + 1) p (cvF a b st gb v') := by
 have hg := Nat.lt_succ_self g
 have hbx : BoxF w' g 9 (cvF a b st gb v) := ⟨fun i hi => (hb.cell (p := ⟨g, i, none⟩) hg).trans (h.box.c i hi), fun i => (hb.frozen (p := ⟨g, i, none⟩) hg).trans (h.box.free i), Nat.lt_of_lt_of_le h.box.lt hb.size⟩
 have hai := h.ai.belowB hb hg
 exact ⟨(hbx.set (i := 7) (by omega) v').congr (all9 rfl rfl rfl rfl rfl rfl rfl rfl rfl), hai.set 7 hv, ho.set hai hg 7 v', (h.bl.trans (hb.mono (Nat.le_succ g))).setCell (p := ⟨g, 7, none⟩) (Nat.le_refl _) v'⟩
theorem lays_av (W : World) (a b : Nat) (st : Int) (T : Nat) : LaysAt (W.alloc (.cells #[.int .i64 4, .int .i64 0, .int .i64 0, .int .i64 (a : Int), .int .i64 (b : Int), .int .i64 st, .int .i64 0, .slice none 0 0, .slice none 0 0] T)) (some ⟨W.heap.size, 0, none⟩) [avL a b st] := by
 refine ⟨by simp, .inr ⟨W.heap.size, 0, rfl, by simp, fun j x hj => ?_⟩⟩
 match j, hj with
 | 0, hj =>
  simp at hj
  subst hj
  exact ⟨none, none, 0, 0, by refine ⟨?_, ?_, ?_, ?_, ?_, ?_, ?_, ?_, ?_⟩ <;> (rw [World.cell?_alloc_at _ _ _ _ rfl]; rfl), RatsAt.nil _ _, RatsAt.nil _ _⟩
theorem lays_cv {W : World} {a b n : Nat} {st : Int} {aw : Option Addr} {cw gb : Nat} (hw : RatsAt W aw (wsL n)) (hb : RatsAt W (some ⟨gb, 0, none⟩) [ratL 0]) (T : Nat) : LaysAt (W.alloc (.cells #[.int .i64 2, .int .i64 0, .int .i64 1, .int .i64 (a : Int), .int .i64 (b : Int), .int .i64 st, .int .i64 0, .slice aw n cw, .slice (some ⟨gb, 0, none⟩) 1 1] T)) (some ⟨W.heap.size, 0, none⟩) [cvL a b st (wsL n)] := by
 have hal : Below W.heap.size W (W.alloc (.cells #[.int .i64 2, .int .i64 0, .int .i64 1, .int .i64 (a : Int), .int .i64 (b : Int), .int .i64 st, .int .i64 0, .slice aw n cw, .slice (some ⟨gb, 0, none⟩) 1 1] T)) := (Below.refl _ _).alloc (Nat.le_refl _) _
 refine ⟨by simp, .inr ⟨W.heap.size, 0, rfl, by simp, fun j x hj => ?_⟩⟩
 match j, hj with
 | 0, hj =>
  simp at hj
  subst hj
  refine ⟨aw, some ⟨gb, 0, none⟩, cw, 1, ?_, hw.below hal, hb.below hal⟩
  rw [show (cvL a b st (wsL n)).weights.length = n by simp [cvL, wsL]]
  refine ⟨?_, ?_, ?_, ?_, ?_, ?_, ?_, ?_, ?_⟩ <;> (rw [World.cell?_alloc_at _ _ _ _ rfl]; rfl)
theorem lawAverage {w : World} {m : ModL} {L : List RatL} {a1 a2 ax : Option Addr} (c1 c2 cx : Nat) {k0 k1 k2 : Int} (b0 : 0 <= k0 /\ k0 <= 255) (b1 : 0 <= k1 /\ k1 <= 255) (b2 : 0 <= k2 /\ k2 <= 255) (h1 : Ints w Any a1 m.input) (h2 : LaysAt w a2 m.layers) (hr : ∀ l ∈ m.layers, LayRange l) (hs : ∀ l ∈ m.layers, LayLe l) (hX : RatsAt w ax L) (hL : ∀ x ∈ L, RatLe x 1048576) :
  Calls Tryz.prog 7 #[.agg #[.slice a1 m.input.length c1, .slice a2 m.layers.length c2], .slice ax L.length cx, .agg #[.int .u8 k0, .int .u8 k1, .int .u8 k2]] w fun e w' => e = .returned (.bool true) /\ Below w.heap.size w w' := by
 have q1 := h1.len
 have q2 := h2.len
 have q3 := hX.len
 have H1 := hid h1
 have H2 := hid h2
 have HRg := hid hr
 have HSh := hid hs
 have HX0 := hid hX
 have HL := hid hL
 have hb0 : Below w.heap.size w (w.alloc (.cells #[.slice a1 m.input.length c1, .slice a2 m.layers.length c2] 25)) := (Below.refl _ _).alloc (Nat.le_refl _) _
 have hx0 := Box2.alloc w (.slice a1 m.input.length c1) (.slice a2 m.layers.length c2) 25
 have hs0 : (w.alloc (.cells #[.slice a1 m.input.length c1, .slice a2 m.layers.length c2] 25)).heap.size = w.heap.size + 1 := by simp
 clear h1 h2 hr hs hX hL
 go_enter Tryz.func7, Tryz.ntmps7
 go_upto_region 1 with fail
 generalize w.alloc (.cells #[.slice a1 m.input.length c1, .slice a2 m.layers.length c2] 25) = Wa at *
 have hb1 : Below Wa.heap.size Wa (Wa.alloc (.cells #[.int .u8 k0, .int .u8 k1, .int .u8 k2] 54)) := (Below.refl _ _).alloc (Nat.le_refl _) _
 have hk := Box3.alloc Wa (.int .u8 k0) (.int .u8 k1) (.int .u8 k2) 54
 rw [hs0] at hk
 have HX := hid (hx0.below hb1)
 have HB := hid (hb0.trans (hb1.mono hb0.size))
 have HK := hid hk
 clear hb0 hx0 hs0 hb1 hk
 generalize Wa.alloc (.cells #[.int .u8 k0, .int .u8 k1, .int .u8 k2] 54) = W at *
 obtain ⟨x0, x1, xf, xlt⟩ := HX.out
 have HIm := hid (kImage c1 c2 (H1.out.below HB.out) (H2.out.below HB.out) HRg.out HSh.out)
 go_wp2_with fail
 refine HIm.out.mono ?_
 rintro e w1 ⟨aS, cS, rfl, hIs, hb1⟩
 have HB1 := hid (HB.out.trans (hb1.mono HB.out.size))
 have HX1 := hid (HX.out.below hb1)
 have HK1 := hid (HK.out.below hb1)
 have HIs := hid hIs
 clear hb1 hIs HIm HX HK x0 x1 xf xlt
 generalize hok : imgB m = ok
 obtain ⟨ns, hns⟩ : ∃ ns, ns = (currL m.input (shapesL m).1).length := ⟨_, rfl⟩
 rw [<- hns]
 have HNs := hid hns
 clear hns
 have HOk := hid hok
 clear hok
 go_wp2_with fail
 refine (awake14 w1).mono ?_
 rintro e w2 ⟨rfl, hb2⟩
 have HW2 := hid hb2
 have HB2 := hid (HB1.out.trans (hb2.mono HB1.out.size))
 have HX2 := hid (HX1.out.below hb2)
 have HK2 := hid (HK1.out.below hb2)
 clear hb2 HX1 HK1
 obtain ⟨x0, x1, xf, xlt⟩ := HX2.out
 have HF := hid (kFair14 c1 c2 cx (H1.out.below HB2.out) (H2.out.below HB2.out) (HX0.out.below HB2.out) HSh.out HL.out)
 cases hf : fairE m L with
 | false =>
  rw [hf] at HF
  clear hf
  go_wp2_with fail
  refine HF.out.mono ?_
  rintro e w3 ⟨rfl, hb3⟩
  have HB3 := hid (HB2.out.trans (hb3.mono HB2.out.size))
  clear hb3 x0 x1 xf xlt
  go_wp2_with fail
  refine (awake14 w3).mono ?_
  rintro e w4 ⟨rfl, hb4⟩
  have HB4 := hid (HB3.out.trans (hb4.mono HB3.out.size))
  clear hb4
  go_wp2
  go_ret
  exact ⟨rfl, HB4.out⟩
 | true =>
  rw [hf] at HF
  have HP := hid (fair_paid hf)
  clear hf
  go_wp2_with fail
  refine HF.out.mono ?_
  rintro e w3 ⟨rfl, hb3⟩
  have HW3 := hid (HW2.out.trans (hb3.mono HW2.out.size))
  have HB3 := hid (HB2.out.trans (hb3.mono HB2.out.size))
  have HX3 := hid (HX2.out.below hb3)
  have HK3 := hid (HK2.out.below hb3)
  clear hb3 HF x0 x1 xf xlt HX2 HK2
  cases ok with
  | false =>
   go_wp2_with fail
   refine (awake14 w3).mono ?_
   rintro e w4 ⟨rfl, hb4⟩
   have HB4 := hid (HB3.out.trans (hb4.mono HB3.out.size))
   clear hb4
   go_wp2
   go_ret
   exact ⟨rfl, HB4.out⟩
  | true =>
   have hl8 := HP.out.lens
   have hsz : (shapesL m).2.2 = 0 := by
    have h := HOk.out
    unfold imgB at h
    rw [Bool.and_eq_true, decide_eq_true_eq] at h
    exact h.1
   have hn3 : ns = 3 := by
    have h := HOk.out
    unfold imgB at h
    rw [Bool.and_eq_true, decide_eq_true_eq, decide_eq_true_eq] at h
    rw [HNs.out]
    exact h.2
   have hw13 : Below w1.heap.size w1 w3 := HW3.out
   obtain ⟨bS, oS, d, haS, sc, hd, _, hbS, _, hd1, hd2⟩ := HIs.out.pick2 (k := 0) (by rw [<- HNs.out]; omega)
   have hgd : (currL m.input (shapesL m).1).getD 0 0 = d := getD_of hd
   have sc := (hw13.cell (p := ⟨bS, oS + 0, none⟩) hbS).trans sc
   have hbS2 := Nat.lt_of_lt_of_le hbS hw13.size
   simp only [Nat.add_zero] at sc
   subst haS
   subst hn3
   by_cases hd0 : d = 1
   case neg =>
    have t1 : (d != 1) = true := by rw [bne_iff_ne]; exact hd0
    clear hgd hd hd0 hw13
    go_wp2_with fail
    refine (awake14 w3).mono ?_
    rintro e w4 ⟨rfl, hb4⟩
    have HB4 := hid (HB3.out.trans (hb4.mono HB3.out.size))
    clear hb4
    go_wp2
    go_ret
    exact ⟨rfl, HB4.out⟩
   subst hd0
   clear hd
   obtain ⟨y0, y1, y2, yf, ylt⟩ := HK3.out
   obtain ⟨x0, x1, xf, xlt⟩ := HX3.out
   go_upto_region 5 with fail
   obtain ⟨a, ha⟩ : ∃ a : Nat, 1 + k0 % 3 = (a : Int) := ⟨(1 + k0 % 3).toNat, by omega⟩
   obtain ⟨b, hb⟩ : ∃ b : Nat, 1 + k1 % 3 = (b : Int) := ⟨(1 + k1 % 3).toNat, by omega⟩
   have bst : 1 <= 1 + k2 % 2 /\ 1 + k2 % 2 <= 3 := by omega
   generalize 1 + k2 % 2 = st at *
   have ba : 1 <= a /\ a <= 3 := by omega
   have bb : 1 <= b /\ b <= 3 := by omega
   rw [ha, hb]
   clear ha hb
   have HTw := hid (avg_run (m := m) ba bb bst (L.map ratOf) hl8 hsz hgd)
   have HCx := hid (cv_extra ba bb bst)
   obtain ⟨n, hn⟩ : ∃ n, n = a * b := ⟨_, rfl⟩
   have hn1 : 1 <= n := by rw [hn]; exact Nat.mul_pos (by omega) (by omega)
   have hn9 : n <= 9 := by rw [hn]; exact Nat.le_trans (Nat.mul_le_mul ba.2 bb.2) (by omega)
   rw [<- hn] at HTw HCx
   have m0 : IntKind.i64.wrap ((a : Int) * (b : Int)) = (n : Int) := by rw [<- Int.natCast_mul, <- hn]; exact IntWalk.i64_in _ (by omega)
   obtain ⟨R, hR⟩ : ∃ R, R = runL ⟨m.input, m.layers ++ [avL a b st]⟩ (L.map ratOf) := ⟨_, rfl⟩
   have HR := hid hR
   have hal4 : Below w3.heap.size w3 (w3.alloc (.cells #[.int .i64 4, .int .i64 0, .int .i64 0, .int .i64 (a : Int), .int .i64 (b : Int), .int .i64 st, .int .i64 0, .slice none 0 0, .slice none 0 0] 42)) := (Below.refl _ _).alloc (Nat.le_refl _) _
   have HA4 := hid (Box9.alloc w3 (.int .i64 4) (.int .i64 0) (.int .i64 0) (.int .i64 (a : Int)) (.int .i64 (b : Int)) (.int .i64 st) (.int .i64 0) (.slice none 0 0) (.slice none 0 0) 42)
   have HX4 := hid (HX3.out.below hal4)
   have HB4 := hid (HB3.out.trans (hal4.mono HB3.out.size))
   clear hR hsz hgd hal4 y0 y1 y2 yf ylt x0 x1 xf xlt hn sc hbS hbS2 hw13
   generalize w3.alloc (.cells #[.int .i64 4, .int .i64 0, .int .i64 0, .int .i64 (a : Int), .int .i64 (b : Int), .int .i64 st, .int .i64 0, .slice none 0 0, .slice none 0 0] 42) = W4 at *
   obtain ⟨l0, l1, l2, l3, l4, l5, l6, l7, l8, l9⟩ := HA4.out
   obtain ⟨p, hp⟩ : ∃ p, p = ratL (((1 : Int) : Rat) / ((n : Int) : Rat)) := ⟨_, rfl⟩
   have hFr := r3Frac W4 1 n (by omega) (by omega) (by omega) (by omega) (by omega)
   rw [<- hp] at hFr
   have HFr := hid hFr
   have HPp := hid hp
   clear hFr hp
   go_wp2_with fail
   refine HFr.out.mono ?_
   rintro e w5 ⟨v5, rfl, kv, kb⟩
   obtain ⟨pn, pd, pcn, pcd, rfl, p2, p3, p4, p5⟩ := kv.ex
   have HB5 := hid (HB4.out.trans (kb.mono HB4.out.size))
   have hal6 : Below w5.heap.size w5 (w5.alloc (ratO p pn pcn pd pcd 37)) := (Below.refl _ _).alloc (Nat.le_refl _) _
   have HP6 := hid (RBox.alloc p2 p3 p4 p5 37)
   have HA6 := hid ((HA4.out.below kb).below hal6)
   have HX6 := hid ((HX4.out.below kb).below hal6)
   have HB6 := hid (HB5.out.trans (hal6.mono HB5.out.size))
   clear kv kb p4 p5 hal6 HFr l0 l1 l2 l3 l4 l5 l6 l7 l8 l9 HA4 HX4
   go_upto_region 6 with fail
   generalize w5.alloc (ratO p pn pcn pd pcd 37) = W6 at *
   obtain ⟨l0, l1, l2, l3, l4, l5, l6, l7, l8, l9⟩ := HA6.out
   have hal7 : Below W6.heap.size W6 (W6.alloc (zerO 37)) := (Below.refl _ _).alloc (Nat.le_refl _) _
   have hZ := rats1_alloc (w := W6) (p := ⟨false, [], []⟩) (an := none) (ad := none) (cn := 0) (cd := 0) (Nat.le_refl _) (Nat.le_refl _) (U32s.nil _ _) (U32s.nil _ _) 37
   simp only [List.length_nil] at hZ
   have hs7 : (W6.alloc (zerO 37)).heap.size = W6.heap.size + 1 := by simp
   have HP7 := hid (HP6.out.below hal7)
   have HA7 := hid (HA6.out.below hal7)
   have HX7 := hid (HX6.out.below hal7)
   have HB7 := hid (HB6.out.trans (hal7.mono HB6.out.size))
   have HZ7 := hid hZ
   go_upto_region 7 with fail
   clear hal7 hZ l0 l1 l2 l3 l4 l5 l6 l7 l8 l9 HP6 HA6 HX6
   generalize hW7 : W6.alloc (zerO 37) = W7 at *
   clear hW7
   rw [<- hs7]
   have hal8 : Below W7.heap.size W7 (W7.alloc (.cells #[.int .i64 2, .int .i64 0, .int .i64 1, .int .i64 (a : Int), .int .i64 (b : Int), .int .i64 st, .int .i64 0, .slice none 0 0, .slice (some ⟨W6.heap.size, 0, none⟩) 1 1] 42)) := (Below.refl _ _).alloc (Nat.le_refl _) _
   have hst : CvSt W7 (W7.alloc (.cells #[.int .i64 2, .int .i64 0, .int .i64 1, .int .i64 (a : Int), .int .i64 (b : Int), .int .i64 st, .int .i64 0, .slice none 0 0, .slice (some ⟨W6.heap.size, 0, none⟩) 1 1] 42)) W7.heap.size (.slice none 0 0) 0 p (cvF a b st W6.heap.size (.slice none 0 0)) := by
    obtain ⟨d0, d1, d2, d3, d4, d5, d6, d7, d8, d9⟩ := Box9.alloc W7 (.int .i64 2) (.int .i64 0) (.int .i64 1) (.int .i64 (a : Int)) (.int .i64 (b : Int)) (.int .i64 st) (.int .i64 0) (.slice none 0 0) (.slice (some ⟨W6.heap.size, 0, none⟩) 1 1) 42
    refine ⟨⟨all9 d0 d1 d2 d3 d4 d5 d6 d7 d8, fun o => World.frozen?_alloc_new _ _ _ _, d9⟩, AllB.of_heap (heap_alloc_new W7 _) (by intro u hu; simp at hu; rcases hu with rfl | rfl | rfl | rfl | rfl | rfl | rfl | rfl | rfl <;> rfl), OwnR.nil _ _, hal8⟩
   have HSt := hid hst
   clear hal8 hst
   generalize W7.alloc (.cells #[.int .i64 2, .int .i64 0, .int .i64 1, .int .i64 (a : Int), .int .i64 (b : Int), .int .i64 st, .int .i64 0, .slice none 0 0, .slice (some ⟨W6.heap.size, 0, none⟩) 1 1] 42) = W8 at *
   clear hs7
   go_wp2_with fail
   go_loopw [13] (fun i wr => ∃ (k : Nat) (v : Value), k <= n /\ i = .int .i64 (k : Int) /\ Hid (CvSt W7 wr W7.heap.size v k p (cvF a b st W6.heap.size v))) (fun i _ => n - (intOf i).toNat)
   case atStart => exact ⟨0, _, Nat.zero_le _, rfl, HSt⟩
   case round =>
    obtain ⟨k, v, hk, rfl, HC⟩ := hrel
    have bl := HC.out.bl
    obtain ⟨l0, l1, l2, l3, l4, l5, l6, l7, l8, l9⟩ := HA7.out.below bl
    by_cases hlt : k < n
    ·obtain ⟨⟨pn, pd, pcn, pcd, ⟨r0, r1, r2, _, rlt⟩, q2, q3, q4, q5⟩, _⟩ := HP7.out.below bl
     have c7 : wr.cell? ⟨W7.heap.size, 7, none⟩ = some v := HC.out.box.c 7 (by omega)
     have c7f := HC.out.box.free 7
     have clt := HC.out.box.lt
     have hal : Below wr.heap.size wr (wr.alloc (ratO p pn pcn pd pcd 37)) := (Below.refl _ _).alloc (Nat.le_refl _) _
     have HRow := hid (Row1.alloc q2 q3 q4 q5 37)
     have HOw := hid (HC.out.own.below hal)
     have HAl := hid (hal.mono (Nat.succ_le_of_lt clt))
     have hlen : (List.replicate k p).length = k := List.length_replicate
     have HLn := hid hlen
     clear bl hal q4 q5 hlen
     go_wp2_with (at_builtin; refine wpList_appR2 rfl (.tmp 86) (.tmp 88) 26 rfl (W7.heap.size + 1) Tryz.underlying26 Tryz.infoRat v k _ HLn.out rfl HOw.out _ p HRow.out rfl (by omega) (Nat.le_trans (Nat.succ_le_of_lt clt) (by simp)) ?_; intro b3 k3 wz hown hk3 hg hbe hnx; rw [<- List.replicate_succ'] at hown; have HApp := hid (CvSt.app HC.out (HAl.out.trans hbe) hown rfl); have e1 := ((HAl.out.trans hbe).cell (p := ⟨W7.heap.size, 7, none⟩) (Nat.lt_succ_self _)).trans c7; have e2 := ((HAl.out.trans hbe).frozen (p := ⟨W7.heap.size, 7, none⟩) (Nat.lt_succ_self _)).trans c7f; have e3 := Nat.lt_of_lt_of_le clt (HAl.out.trans hbe).size; clear hown hg hbe hnx c7 c7f clt l0 l1 l2 l3 l4 l5 l6 l7 l8 l9 r0 r1 r2 rlt)
     exact ⟨⟨k + 1, _, hlt, by go_num, HApp⟩, by simp [intOf]; omega⟩
    ·have hkn : k = n := by omega
     rw [hkn] at HC
     obtain ⟨aw, cw, hv, hcw⟩ := HC.out.own.form
     rw [List.length_replicate] at hv hcw
     subst hv
     have hws : List.replicate n p = wsL n := by rw [HPp.out]; rfl
     have hrw := HC.out.own.rats (by rw [List.length_replicate]; omega)
     rw [hws] at hrw
     have HWr := hid hrw
     have HBr := hid (HB7.out.trans (bl.mono HB7.out.size))
     have HXr := hid (HX7.out.below bl)
     have hzr := HZ7.out.below bl
     rw [<- ratL_zeroE] at hzr
     have HZr := hid hzr
     have HCb := hid HC.out.box
     obtain ⟨x0, x1, xf, xlt⟩ := HXr.out
     have hal9 : Below wr.heap.size wr (wr.alloc (.cells #[.int .i64 4, .int .i64 0, .int .i64 0, .int .i64 (a : Int), .int .i64 (b : Int), .int .i64 st, .int .i64 0, .slice none 0 0, .slice none 0 0] 42)) := (Below.refl _ _).alloc (Nat.le_refl _) _
     have hb9 := HBr.out.trans (hal9.mono HBr.out.size)
     have HW9 := hid (kWith (a1 := a1) m.input.length c1 c2 1 (H2.out.below hb9) (lays_av wr a b st 42) (by omega) (by simp))
     have HB9 := hid hb9
     have HX9 := hid (HXr.out.below hal9)
     have HC9 := hid (HCb.out.below hal9)
     have HV9 := hid (HWr.out.below hal9)
     have HZ9 := hid (HZr.out.below hal9)
     clear hb9 hal9 hrw hzr hws bl HC HSt
     simp only [List.length_cons, List.length_nil] at HW9
     go_wp2_with fail
     refine HW9.out.mono ?_
     rintro e wa ⟨aa, ca, rfl, hlaa, hba⟩
     have HBa := hid (HB9.out.trans (hba.mono HB9.out.size))
     have HXa := hid (HX9.out.below hba)
     have HCa := hid (HC9.out.below hba)
     have HVa := hid (HV9.out.below hba)
     have HZa := hid (HZ9.out.below hba)
     have HRu := hid (evRunX c1 ca cx (H1.out.below HBa.out) hlaa HRg.out HSh.out (fun l hl => by simp at hl; subst hl; exact av_extra (by omega) (by omega) bst) (by simp) (HX0.out.below HBa.out) HP.out)
     rw [<- HR.out] at HRu
     generalize (m.layers ++ [avL a b st]).length = n7 at *
     clear hlaa hba HW9 x0 x1 xf xlt l0 l1 l2 l3 l4 l5 l6 l7 l8 l9 HXr HCb HWr HZr HX9 HC9 HV9 HZ9
     go_wp2_with fail
     refine HRu.out.mono ?_
     rintro e wb ⟨ab, cb, rfl, hcb, hRb, hbb⟩
     have HBb := hid (HBa.out.trans (hbb.mono HBa.out.size))
     have HXb := hid (HXa.out.below hbb)
     have HCb := hid (HCa.out.below hbb)
     have HVb := hid (HVa.out.below hbb)
     have HZb := hid (HZa.out.below hbb)
     have HQb := hid hRb
     obtain ⟨n8, hn8⟩ : ∃ n8, n8 = R.1.length := ⟨_, rfl⟩
     have hn83 : n8 <= 9223372036854775807 := by rw [hn8]; exact hRb.len
     generalize her : R.2 = er at *
     rw [<- hn8] at hcb ⊢
     have HN8 := hid hn8
     have HEr := hid her
     clear hRb hbb HRu hn8 her HXa HCa HVa HZa
     obtain ⟨x0, x1, xf, xlt⟩ := HXb.out
     have g0 : wb.cell? ⟨W7.heap.size, 0, none⟩ = some (.int .i64 2) := HCb.out.c 0 (by omega)
     have g1 : wb.cell? ⟨W7.heap.size, 1, none⟩ = some (.int .i64 0) := HCb.out.c 1 (by omega)
     have g2 : wb.cell? ⟨W7.heap.size, 2, none⟩ = some (.int .i64 1) := HCb.out.c 2 (by omega)
     have g3 : wb.cell? ⟨W7.heap.size, 3, none⟩ = some (.int .i64 (a : Int)) := HCb.out.c 3 (by omega)
     have g4 : wb.cell? ⟨W7.heap.size, 4, none⟩ = some (.int .i64 (b : Int)) := HCb.out.c 4 (by omega)
     have g5 : wb.cell? ⟨W7.heap.size, 5, none⟩ = some (.int .i64 st) := HCb.out.c 5 (by omega)
     have g6 : wb.cell? ⟨W7.heap.size, 6, none⟩ = some (.int .i64 0) := HCb.out.c 6 (by omega)
     have g7 : wb.cell? ⟨W7.heap.size, 7, none⟩ = some (.slice aw n cw) := HCb.out.c 7 (by omega)
     have g8 : wb.cell? ⟨W7.heap.size, 8, none⟩ = some (.slice (some ⟨W6.heap.size, 0, none⟩) 1 1) := HCb.out.c 8 (by omega)
     have g9 := HCb.out.lt
     have halc : Below wb.heap.size wb (wb.alloc (.cells #[.int .i64 2, .int .i64 0, .int .i64 1, .int .i64 (a : Int), .int .i64 (b : Int), .int .i64 st, .int .i64 0, .slice aw n cw, .slice (some ⟨W6.heap.size, 0, none⟩) 1 1] 42)) := (Below.refl _ _).alloc (Nat.le_refl _) _
     have hbc := HBb.out.trans (halc.mono HBb.out.size)
     have HWc := hid (kWith (a1 := a1) m.input.length c1 c2 1 (H2.out.below hbc) (lays_cv (a := a) (b := b) (st := st) (cw := cw) HVb.out HZb.out 42) (by omega) (by simp))
     have HBc := hid hbc
     have HQc := hid (HQb.out.below halc)
     clear hbc halc
     simp only [List.length_cons, List.length_nil] at HWc
     go_wp2_with fail
     refine HWc.out.mono ?_
     rintro e wd ⟨ad, cd, rfl, hlad, hbd⟩
     have HBd := hid (HBc.out.trans (hbd.mono HBc.out.size))
     have HQd := hid (HQc.out.below hbd)
     have HRv := hid (evRunX c1 cd cx (H1.out.below HBd.out) hlad HRg.out HSh.out (fun l hl => by simp at hl; subst hl; exact HCx.out) (by simp) (HX0.out.below HBd.out) HP.out)
     rw [<- HTw.out, <- HR.out] at HRv
     generalize (m.layers ++ [cvL a b st (wsL n)]).length = na at *
     clear hlad hbd HWc x0 x1 xf xlt g0 g1 g2 g3 g4 g5 g6 g7 g8 g9
     go_wp2_with fail
     refine HRv.out.mono ?_
     rintro e we ⟨ae, ce, rfl, hce, hRe, hbe⟩
     rw [HEr.out, <- HN8.out]
     rw [<- HN8.out] at hce
     have HBe := hid (HBd.out.trans (hbe.mono HBd.out.size))
     have hC := r12Rats cb ce (HQd.out.below hbe) hRe
     rw [show decide (R.1 = R.1) = true from decide_eq_true rfl, <- HN8.out] at hC
     have HC := hid hC
     have t1 : (er == er) = true := by simp
     clear hC hRe hbe HRv
     go_wp2_with fail
     refine HC.out.mono ?_
     rintro e wf ⟨rfl, hbf⟩
     have HBf := hid (HBe.out.trans (hbf.mono HBe.out.size))
     clear hbf
     go_wp2
     go_ret
     exact ⟨rfl, HBf.out⟩
end Go.Proofs.YtoppijdedkdjeaaGreat

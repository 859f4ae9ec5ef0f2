/-
  Contracts of the functions that the statement reaches: LwG, LwH, LwI, OpenT, LwJ, LwK, LwL.
-/
import Derived.Test.YtoppijdedkdjeaaGreatD31
import Derived.Test.YtoppijdedkdjeaaGreatD40
set_option linter.unusedVariables false
set_option linter.unusedSimpArgs false
set_option linter.constructorNameAsVariable false
set_option linter.deprecated false
set_option maxRecDepth 100000
set_option maxHeartbeats 3200000
namespace Go.Proofs.YtoppijdedkdjeaaGreat
open Go.RowKit
open Go.Lib (hid)
theorem runL_eq (m : ModL) (x : List Rat) : runL m x = if (shapesL m).2.2 = 0 then (if (x.length : Int) = sizeL m.input then ((currQ x (traceQ m x)).map ratL, 0) else ([], 11)) else ([], (shapesL m).2.2) := by
 unfold runL traceL
 by_cases h : (shapesL m).2.2 = 0
 ·rw [if_pos h, if_pos h]
  by_cases hx : (x.length : Int) = sizeL m.input
  ·rw [if_pos hx, if_pos hx, if_pos rfl]
   unfold currQ
   cases hl : (traceQ m x).getLast? with
   | none => rw [List.getLast?_map, hl]; rfl
   | some y => rw [List.getLast?_map, hl]; rfl
  ·rw [if_neg hx, if_neg hx, if_neg (by decide)]
 ·rw [if_neg h, if_neg h, if_neg h]
theorem laysFrom_app (l : LayL) : ∀ (L : List LayL) (i : Int), laysFrom (L ++ [l]) i = (laysFrom L i && layOK l (i + L.length))
 | [], i => by simp [laysFrom]
 | a :: L, i => by
  show (layOK a i && laysFrom (L ++ [l]) (i + 1)) = ((layOK a i && laysFrom L (i + 1)) && _)
  rw [laysFrom_app l L (i + 1), Bool.and_assoc, List.length_cons]
  congr 3
  omega
theorem shapesFrom_err {input : List Int} {R : List LayL} : ∀ (L : List LayL) (S : List (List Int)), (shapesFrom input S L).2.2 ≠ 0 -> shapesFrom input S (L ++ R) = shapesFrom input S L
 | [], S, h => absurd rfl h
 | a :: L, S, h => by
  rw [shapesFrom_cons] at h
  rw [List.cons_append, shapesFrom_cons, shapesFrom_cons]
  by_cases k : (outSL input S a).2 = 0
  ·rw [if_pos k] at h
   rw [if_pos k, if_pos k]
   exact shapesFrom_err L _ h
  ·rw [if_neg k, if_neg k]
theorem chain_snoc {input : List Int} {T : List (List Int)} {L : List LayL} {l : LayL} {s : List Int} (h : Chain input [] T L) (ho : outSL input T l = (s, 0)) : Chain input [] (T ++ [s]) (L ++ [l]) := by
 obtain ⟨h1, h2⟩ := h
 refine ⟨by rw [List.length_append, List.length_append, h1]; rfl, fun j s' l' hs hl => ?_⟩
 by_cases hj : j < T.length
 ·rw [List.getElem?_append_left hj] at hs
  rw [List.getElem?_append_left (by omega)] at hl
  have := h2 j s' l' hs hl
  rw [List.take_append_of_le_length (by omega)]
  exact this
 ·have hlt := (List.getElem?_eq_some_iff.1 hs).1
  rw [List.length_append] at hlt
  simp at hlt
  obtain rfl : j = T.length := by omega
  have e1 : s' = s := by simpa using hs.symm
  have e2 : l' = l := by rw [h1] at hl; simpa using hl.symm
  subst e1 e2
  rw [List.take_left]
  exact ho
theorem traceFrom_app {input : List Int} {x : List Rat} {R : List LayL} : ∀ {L : List LayL} {S T : List (List Int)} {Y : List (List Rat)}, Chain input S T L -> traceFrom input x S Y (L ++ R) = traceFrom input x (S ++ T) (traceFrom input x S Y L) R
 | [], S, T, Y, h => by
  have : T = [] := List.eq_nil_of_length_eq_zero h.1
  subst this
  rw [List.append_nil]
  rfl
 | a :: L, S, T, Y, h => by
  obtain ⟨s, T', rfl, ho, hc⟩ := h.head
  have := traceFrom_app (R := R) (x := x) (Y := Y ++ [layQ a (currL input S) (currQ x Y) (fromQ x Y a.frm)]) hc
  show traceFrom input x (S ++ [(outSL input S a).1]) _ (L ++ R) = traceFrom input x _ (traceFrom input x (S ++ [(outSL input S a).1]) _ L) R
  rw [ho, this, List.append_assoc]
  rfl
structure Fits (m : ModL) (x : List Rat) (T : List (List Int)) (Y : List (List Rat)) : Prop where
 ch : Chain m.input [] T m.layers
 sh : shapesL m = (T, 0, 0)
 tr : traceQ m x = Y
theorem fits_of {m : ModL} (x : List Rat) (h : (shapesL m).2.2 = 0) : ∃ T, Fits m x T (traceQ m x) := by
 rcases shapesL_cases m with ⟨_, k⟩ | ⟨_, ⟨T, hc, hT⟩ | ⟨k, _⟩⟩
 ·rw [k] at h; simp at h
 ·exact ⟨T, hc, hT, rfl⟩
 ·omega
theorem Fits.app {m : ModL} {x : List Rat} {T : List (List Int)} {Y : List (List Rat)} {l : LayL} {s : List Int} (h : Fits m x T Y) (hl : m.layers.length + 1 <= 64) (ho : outSL m.input T l = (s, 0)) :
  Fits ⟨m.input, m.layers ++ [l]⟩ x (T ++ [s]) (Y ++ [layQ l (currL m.input T) (currQ x Y) (fromQ x Y l.frm)]) := by
 refine ⟨chain_snoc h.ch ho, ?_, ?_⟩
 ·have hs := h.sh
  rcases shapesL_app l (by rw [hs]) hl with ⟨_, k⟩ | ⟨k, _⟩ | ⟨k, _⟩
  ·rw [k, hs]; simp only; rw [ho]
  ·rw [hs] at k; simp only at k; rw [ho] at k; simp at k
  ·rw [hs] at k; simp only at k; rw [ho] at k; simp at k
 ·have ht := h.tr
  unfold traceQ at ht ⊢
  show traceFrom m.input x [] [] (m.layers ++ [l]) = _
  rw [traceFrom_app h.ch, ht, List.nil_append]
  rfl
theorem Fits.fail {m : ModL} {x : List Rat} {T : List (List Int)} {Y : List (List Rat)} {l : LayL} (h : Fits m x T Y) (hl : m.layers.length + 1 <= 64) (ho : (outSL m.input T l).2 = 7) : (shapesL ⟨m.input, m.layers ++ [l]⟩).2.2 = 7 := by
 have hs := h.sh
 rcases shapesL_app l (by rw [hs]) hl with ⟨k, _⟩ | ⟨_, k⟩ | ⟨k, _⟩
 ·rw [hs] at k; simp only at k; omega
 ·rw [k]
 ·rw [hs] at k; simp only at k; omega
theorem err_app {m : ModL} {l : LayL} (hl : m.layers.length + 1 <= 64) (hok : ∀ i : Int, layOK l i = true) (h : (shapesL m).2.2 ≠ 0) : (shapesL ⟨m.input, m.layers ++ [l]⟩).2.2 = (shapesL m).2.2 := by
 have hv : validM ⟨m.input, m.layers ++ [l]⟩ = validM m := by
  unfold validM
  rw [laysFrom_app, hok, Bool.and_true]
  rw [show decide ((m.layers ++ [l]).length <= 64) = decide (m.layers.length <= 64) by rw [decide_eq_true (by rw [List.length_append]; simpa using hl), decide_eq_true (by omega)]]
 unfold shapesL at h ⊢
 rw [hv]
 cases hm : validM m with
 | false => rfl
 | true =>
  rw [hm] at h
  simp only [if_true] at h ⊢
  rw [shapesFrom_err _ _ h]
def flatL : LayL := ⟨6, 0, 0, 0, 0, 0, 0, [], []⟩
theorem relu_ok (i : Int) : layOK exR i = true := rfl
theorem flat_ok (i : Int) : layOK flatL i = true := rfl
theorem Fits.valid {m : ModL} {x : List Rat} {T : List (List Int)} {Y : List (List Rat)} (h : Fits m x T Y) : validL m.input = true /\ T.all validL = true /\ m.layers.length <= 64 := by
 have hs := h.sh
 rcases shapesL_cases m with ⟨_, k⟩ | ⟨hv, _⟩
 ·rw [k] at hs; simp at hs
 ·unfold validM at hv
  simp only [Bool.and_eq_true, decide_eq_true_eq] at hv
  exact ⟨hv.1, h.ch.valid, hv.2.1⟩
theorem curr_ok {input : List Int} {T : List (List Int)} (h1 : validL input = true) (h2 : T.all validL = true) : validL (currL input T) = true := by
 unfold currL
 cases hg : T.getLast? with
 | none => exact h1
 | some z => exact List.all_eq_true.1 h2 z (List.mem_of_getLast? hg)
theorem relu_fits {m : ModL} {x : List Rat} {T : List (List Int)} {Y : List (List Rat)} (h : Fits m x T Y) (hl : m.layers.length + 1 <= 64) : Fits ⟨m.input, m.layers ++ [exR]⟩ x (T ++ [currL m.input T]) (Y ++ [reluQ (currQ x Y)]) := by
 obtain ⟨v1, v2, _⟩ := h.valid
 have ho : outSL m.input T exR = (currL m.input T, 0) := by
  rw [outSL_fit v1 (by rw [h.ch.1]; omega) (relu_ok _) v2]
  have hr : rawL m.input T exR = (currL m.input T, true) := by
   unfold rawL
   rw [if_neg (by decide), if_neg (by decide), if_neg (by decide), if_neg (by decide), if_neg (by decide)]
  rw [hr]
  simp only [Bool.true_and]
  rw [if_pos (curr_ok v1 v2)]
 have := h.app hl ho
 rw [show layQ exR (currL m.input T) (currQ x Y) (fromQ x Y exR.frm) = reluQ (currQ x Y) by
  unfold layQ
  rw [if_neg (show ¬ exR.kind = 1 by decide), if_neg (show ¬ exR.kind = 2 by decide), if_neg (show ¬ exR.kind = 3 by decide), if_neg (show ¬ exR.kind = 4 by decide), if_pos (show exR.kind = 5 from rfl)]] at this
 exact this
theorem flat_fits {m : ModL} {x : List Rat} {T : List (List Int)} {Y : List (List Rat)} (h : Fits m x T Y) (hl : m.layers.length + 1 <= 64) : Fits ⟨m.input, m.layers ++ [flatL]⟩ x (T ++ [[sizeL (currL m.input T)]]) (Y ++ [currQ x Y]) := by
 obtain ⟨v1, v2, _⟩ := h.valid
 have hv := curr_ok v1 v2
 have hz := validL_size hv
 have ho : outSL m.input T flatL = ([sizeL (currL m.input T)], 0) := by
  rw [outSL_fit v1 (by rw [h.ch.1]; omega) (flat_ok _) v2]
  have hr : rawL m.input T flatL = ([sizeL (currL m.input T)], true) := by
   unfold rawL
   rw [if_neg (by decide), if_neg (by decide), if_neg (by decide), if_pos (by decide)]
  rw [hr]
  simp only [Bool.true_and]
  rw [if_pos (sizeL_one hz.1 hz.2).1]
 have := h.app hl ho
 rw [show layQ flatL (currL m.input T) (currQ x Y) (fromQ x Y flatL.frm) = currQ x Y by
  unfold layQ
  rw [if_neg (show ¬ flatL.kind = 1 by decide), if_neg (show ¬ flatL.kind = 2 by decide), if_neg (show ¬ flatL.kind = 3 by decide), if_neg (show ¬ flatL.kind = 4 by decide), if_neg (show ¬ flatL.kind = 5 by decide), if_neg (show ¬ flatL.kind = 7 by decide)]] at this
 exact this
theorem currQ_snoc (x : List Rat) (Y : List (List Rat)) (y : List Rat) : currQ x (Y ++ [y]) = y := by simp [currQ]
theorem currL_snoc (input : List Int) (T : List (List Int)) (s : List Int) : currL input (T ++ [s]) = s := by simp [currL]
theorem maxQ_idem (q : Rat) : maxQ (maxQ q 0) 0 = maxQ q 0 := by
 unfold maxQ
 split <;> simp_all
theorem reluQ_idem (x : List Rat) : reluQ (reluQ x) = reluQ x := by
 unfold reluQ
 rw [List.map_map]
 refine List.map_congr_left fun q _ => maxQ_idem q
theorem evRunX {w : World} {m : ModL} {a1 a2 ax : Option Addr} {L : List RatL} {R : List LayL} (c1 c2 cx : Nat) (h1 : Ints w Any a1 m.input) (h2 : LaysAt w a2 (m.layers ++ R)) (hr : ∀ l ∈ m.layers, LayRange l) (hs : ∀ l ∈ m.layers, LayLe l)
  (hR : ∀ l ∈ R, LayRange l /\ LayLe l /\ SmallL l) (hRl : R.length <= 4) (hX : RatsAt w ax L) (hp : Paid m L) :
  Calls Tryz.prog 17 #[.agg #[.slice a1 m.input.length c1, .slice a2 (m.layers ++ R).length c2], .slice ax L.length cx] w (RunPost w (runL ⟨m.input, m.layers ++ R⟩ (L.map ratOf))) := by
 obtain ⟨D, hD, hB, hRm⟩ := hp.room
 have hl := hp.lens
 have hll : (m.layers ++ R).length <= 12 := by rw [List.length_append]; omega
 have hX' := hX
 rw [hp.back] at hX'
 have hsm : ∀ l ∈ m.layers ++ R, SmallL l := fun l hl => by
  rcases List.mem_append.1 hl with k | k
  ·exact hp.sm l k
  ·exact (hR l k).2.2
 have hR' : RoomK ((12 - (m.layers ++ R).length) + (m.layers ++ R).length) D 18446744073709551616 := by rw [Nat.sub_add_cancel hll]; exact hRm
 have h := evRun (m := ⟨m.input, m.layers ++ R⟩) (x := L.map ratOf) c1 c2 cx h1 h2 (fun l hl => by
   rcases List.mem_append.1 hl with k | k
   ·exact hr l k
   ·exact (hR l k).1) (fun l hl => by
   rcases List.mem_append.1 hl with k | k
   ·exact hs l k
   ·exact (hR l k).2.1) hX' hsm hB hD (by omega) hll hRm (by rw [List.length_map]; have := hp.xl; omega) (fun l hl => Nat.le_trans (trace_len (m := ⟨m.input, m.layers ++ R⟩) hR' hB hD (by omega) hsm l hl) (by omega))
 rw [List.length_map] at h
 exact h
theorem relu_extra : LayRange exR /\ LayLe exR /\ SmallL exR := ⟨by unfold LayRange I64; simp [exR], ⟨by simp [exR], by simp [exR]⟩, ⟨by simp [exR, wq, bq], by simp [exR, wq, bq]⟩⟩
theorem flat_extra : LayRange flatL /\ LayLe flatL /\ SmallL flatL := ⟨by unfold LayRange I64; simp [flatL], ⟨by simp [flatL], by simp [flatL]⟩, ⟨by simp [flatL, wq, bq], by simp [flatL, wq, bq]⟩⟩
theorem twice_run {m : ModL} (x : List Rat) (hl : m.layers.length <= 8) : runL ⟨m.input, m.layers ++ [exR]⟩ x = runL ⟨m.input, m.layers ++ [exR, exR, flatL]⟩ x /\ ∀ y ∈ (runL ⟨m.input, m.layers ++ [exR]⟩ x).1, y.neg = false := by
 have e3 : m.layers ++ [exR, exR, flatL] = ((m.layers ++ [exR]) ++ [exR]) ++ [flatL] := by simp
 rw [e3]
 by_cases h : (shapesL m).2.2 = 0
 ·obtain ⟨T, hf⟩ := fits_of x h
  have f1 := relu_fits hf (by omega)
  have f2 := relu_fits f1 (by simp; omega)
  have f3 := flat_fits f2 (by simp; omega)
  simp only [currL_snoc, currQ_snoc] at f2 f3
  rw [reluQ_idem] at f2 f3
  rw [runL_eq, runL_eq, f1.sh, f3.sh, if_pos rfl, if_pos rfl, f1.tr, f3.tr, currQ_snoc, currQ_snoc]
  refine ⟨rfl, fun y hy => ?_⟩
  by_cases hx : (x.length : Int) = sizeL m.input
  ·rw [if_pos hx] at hy
   obtain ⟨q, hq, rfl⟩ := List.mem_map.1 hy
   unfold reluQ at hq
   obtain ⟨p, _, rfl⟩ := List.mem_map.1 hq
   have h0 : 0 <= maxQ p 0 := by unfold maxQ; split <;> simp_all
   exact decide_eq_false (by have := Rat.num_nonneg.2 h0; omega)
  ·rw [if_neg hx] at hy; simp at hy
 ·have g1 := err_app (l := exR) (by omega) relu_ok h
  have g2 := err_app (m := ⟨m.input, m.layers ++ [exR]⟩) (l := exR) (by simp; omega) relu_ok (by rw [g1]; exact h)
  have g3 := err_app (m := ⟨m.input, (m.layers ++ [exR]) ++ [exR]⟩) (l := flatL) (by simp; omega) flat_ok (by rw [g2, g1]; exact h)
  simp only at g1 g2 g3
  rw [runL_eq, runL_eq, g1, g3, g2, g1, if_neg h, if_neg h]
  exact ⟨rfl, fun y hy => by simp at hy⟩
theorem lays1_alloc (W : World) (T : Nat) : LaysAt (W.alloc (.cells #[.int .i64 5, .int .i64 0, .int .i64 0, .int .i64 0, .int .i64 0, .int .i64 0, .int .i64 0, .slice none 0 0, .slice none 0 0] T)) (some ⟨W.heap.size, 0, none⟩) [exR] := by
 refine ⟨by simp, .inr ⟨W.heap.size, 0, rfl, by simp, fun j x hj => ?_⟩⟩
 match j, hj with
 | 0, hj =>
  simp at hj
  subst hj
  exact ⟨none, none, 0, 0, by refine ⟨?_, ?_, ?_, ?_, ?_, ?_, ?_, ?_, ?_⟩ <;> (rw [World.cell?_alloc_at _ _ _ _ rfl]; rfl), RatsAt.nil _ _, RatsAt.nil _ _⟩
theorem lays3_alloc (W : World) (T : Nat) : LaysAt (W.alloc (.cells #[.int .i64 5, .int .i64 0, .int .i64 0, .int .i64 0, .int .i64 0, .int .i64 0, .int .i64 0, .slice none 0 0, .slice none 0 0, .int .i64 5, .int .i64 0, .int .i64 0, .int .i64 0, .int .i64 0, .int .i64 0, .int .i64 0, .slice none 0 0, .slice none 0 0, .int .i64 6, .int .i64 0, .int .i64 0, .int .i64 0, .int .i64 0, .int .i64 0, .int .i64 0, .slice none 0 0, .slice none 0 0] T)) (some ⟨W.heap.size, 0, none⟩) [exR, exR, flatL] := by
 refine ⟨by simp, .inr ⟨W.heap.size, 0, rfl, by simp, fun j x hj => ?_⟩⟩
 match j, hj with
 | 0, hj =>
  simp at hj
  subst hj
  exact ⟨none, none, 0, 0, by refine ⟨?_, ?_, ?_, ?_, ?_, ?_, ?_, ?_, ?_⟩ <;> (rw [World.cell?_alloc_at _ _ _ _ rfl]; rfl), RatsAt.nil _ _, RatsAt.nil _ _⟩
 | 1, hj =>
  simp at hj
  subst hj
  exact ⟨none, none, 0, 0, by refine ⟨?_, ?_, ?_, ?_, ?_, ?_, ?_, ?_, ?_⟩ <;> (rw [World.cell?_alloc_at _ _ _ _ rfl]; rfl), RatsAt.nil _ _, RatsAt.nil _ _⟩
 | 2, hj =>
  simp at hj
  subst hj
  exact ⟨none, none, 0, 0, by refine ⟨?_, ?_, ?_, ?_, ?_, ?_, ?_, ?_, ?_⟩ <;> (rw [World.cell?_alloc_at _ _ _ _ rfl]; rfl), RatsAt.nil _ _, RatsAt.nil _ _⟩
theorem lawTwice {w : World} {m : ModL} {L : List RatL} {a1 a2 ax : Option Addr} (c1 c2 cx : Nat) (h1 : Ints w Any a1 m.input) (h2 : LaysAt w a2 m.layers) (hr : ∀ l ∈ m.layers, LayRange l) (hs : ∀ l ∈ m.layers, LayLe l) (hX : RatsAt w ax L) (hL : ∀ x ∈ L, RatLe x 1048576) :
  Calls Tryz.prog 5 #[.agg #[.slice a1 m.input.length c1, .slice a2 m.layers.length c2], .slice ax L.length cx] w fun e w' => e = .returned (.bool true) /\ Below w.heap.size w w' := by
 have q1 := h1.len
 have q2 := h2.len
 have q3 := hX.len
 have H1 := hid h1
 have H2 := hid h2
 have HRg := hid hr
 have HSh := hid hs
 have HX0 := hid hX
 have HL := hid hL
 have hbA : Below w.heap.size w (w.alloc (.cells #[.slice a1 m.input.length c1, .slice a2 m.layers.length c2] 25)) := (Below.refl _ _).alloc (Nat.le_refl _) _
 have hx := Box2.alloc w (.slice a1 m.input.length c1) (.slice a2 m.layers.length c2) 25
 clear h1 h2 hr hs hX hL
 go_enter Tryz.func5, Tryz.ntmps5
 go_upto_region 1 with fail
 generalize w.alloc (.cells #[.slice a1 m.input.length c1, .slice a2 m.layers.length c2] 25) = W at *
 have HB := hid hbA
 have HX := hid hx
 clear hbA hx
 go_wp2_with fail
 refine (awake14 W).mono ?_
 rintro e w1 ⟨rfl, hb1⟩
 have HB1 := hid (HB.out.trans (hb1.mono HB.out.size))
 have HX1 := hid (HX.out.below hb1)
 obtain ⟨x0, x1, xf, xlt⟩ := HX1.out
 have HF := hid (kFair14 c1 c2 cx (H1.out.below HB1.out) (H2.out.below HB1.out) (HX0.out.below HB1.out) HSh.out HL.out)
 clear hb1 HX
 cases hf : fairE m L with
 | false =>
  rw [hf] at HF
  clear hf
  go_wp2_with fail
  refine HF.out.mono ?_
  rintro e w2 ⟨rfl, hb2⟩
  have HB2 := hid (HB1.out.trans (hb2.mono HB1.out.size))
  clear hb2 x0 x1 xf xlt
  go_wp2_with fail
  refine (awake14 w2).mono ?_
  rintro e w3 ⟨rfl, hb3⟩
  have HB3 := hid (HB2.out.trans (hb3.mono HB2.out.size))
  clear hb3
  go_wp2
  go_ret
  exact ⟨rfl, HB3.out⟩
 | true =>
  rw [hf] at HF
  have HP := hid (fair_paid hf)
  clear hf
  go_wp2_with fail
  refine HF.out.mono ?_
  rintro e w2 ⟨rfl, hb2⟩
  have HB2 := hid (HB1.out.trans (hb2.mono HB1.out.size))
  have HX2 := hid (HX1.out.below hb2)
  clear hb2 x0 x1 xf xlt HF
  obtain ⟨x0, x1, xf, xlt⟩ := HX2.out
  have hl8 := HP.out.lens
  have HTw := hid (twice_run (m := m) (L.map ratOf) hl8)
  obtain ⟨R, hR⟩ : ∃ R, R = runL ⟨m.input, m.layers ++ [exR]⟩ (L.map ratOf) := ⟨_, rfl⟩
  have HR := hid hR
  clear hR
  have hal : Below w2.heap.size w2 (w2.alloc (.cells #[.int .i64 5, .int .i64 0, .int .i64 0, .int .i64 0, .int .i64 0, .int .i64 0, .int .i64 0, .slice none 0 0, .slice none 0 0] 42)) := (Below.refl _ _).alloc (Nat.le_refl _) _
  have HBx := hid (Box9.alloc w2 (.int .i64 5) (.int .i64 0) (.int .i64 0) (.int .i64 0) (.int .i64 0) (.int .i64 0) (.int .i64 0) (.slice none 0 0) (.slice none 0 0) 42)
  have HX3 := hid (HX2.out.below hal)
  have HB3 := hid (HB2.out.trans (hal.mono HB2.out.size))
  go_upto_region 4 with fail
  clear x0 x1 xf xlt hal
  generalize w2.alloc (.cells #[.int .i64 5, .int .i64 0, .int .i64 0, .int .i64 0, .int .i64 0, .int .i64 0, .int .i64 0, .slice none 0 0, .slice none 0 0] 42) = W3 at *
  obtain ⟨x0, x1, xf, xlt⟩ := HX3.out
  obtain ⟨l0, l1, l2, l3, l4, l5, l6, l7, l8, l9⟩ := HBx.out
  have hal4 : Below W3.heap.size W3 (W3.alloc (.cells #[.int .i64 5, .int .i64 0, .int .i64 0, .int .i64 0, .int .i64 0, .int .i64 0, .int .i64 0, .slice none 0 0, .slice none 0 0] 42)) := (Below.refl _ _).alloc (Nat.le_refl _) _
  have hb4 := HB3.out.trans (hal4.mono HB3.out.size)
  have HW4 := hid (kWith (a1 := a1) m.input.length c1 c2 1 (H2.out.below hb4) (lays1_alloc W3 42) (by omega) (by simp))
  have HB4 := hid hb4
  have HX4 := hid (HX3.out.below hal4)
  have HBx4 := hid (HBx.out.below hal4)
  clear hb4 hal4
  simp only [List.length_cons, List.length_nil] at HW4
  go_wp2_with fail
  refine HW4.out.mono ?_
  rintro e w5 ⟨a5, c5, rfl, hla5, hb5⟩
  have HB5 := hid (HB4.out.trans (hb5.mono HB4.out.size))
  have HX5 := hid (HX4.out.below hb5)
  have HBx5 := hid (HBx4.out.below hb5)
  have HRu := hid (evRunX c1 c5 cx (H1.out.below HB5.out) hla5 HRg.out HSh.out (fun l hl => by simp at hl; subst hl; exact relu_extra) (by simp) (HX0.out.below HB5.out) HP.out)
  rw [<- HR.out] at HRu
  generalize (m.layers ++ [exR]).length = n5 at *
  clear hla5 hb5 HW4 l0 l1 l2 l3 l4 l5 l6 l7 l8 l9 x0 x1 xf xlt
  go_wp2_with fail
  refine HRu.out.mono ?_
  rintro e w6 ⟨a6, c6, rfl, hc6, hR6, hb6⟩
  have HB6 := hid (HB5.out.trans (hb6.mono HB5.out.size))
  have HX6 := hid (HX5.out.below hb6)
  have HBx6 := hid (HBx5.out.below hb6)
  have HR6 := hid hR6
  obtain ⟨n6, hn6⟩ : ∃ n6, n6 = R.1.length := ⟨_, rfl⟩
  have hn63 : n6 <= 9223372036854775807 := by rw [hn6]; exact hR6.len
  generalize her : R.2 = er at *
  rw [<- hn6] at hc6 ⊢
  have HN6 := hid hn6
  have HEr := hid her
  clear hR6 hb6 HRu hn6 her
  obtain ⟨x0, x1, xf, xlt⟩ := HX6.out
  obtain ⟨l0, l1, l2, l3, l4, l5, l6, l7, l8, l9⟩ := HBx6.out
  have hal7 : Below w6.heap.size w6 (w6.alloc (.cells #[.int .i64 5, .int .i64 0, .int .i64 0, .int .i64 0, .int .i64 0, .int .i64 0, .int .i64 0, .slice none 0 0, .slice none 0 0, .int .i64 5, .int .i64 0, .int .i64 0, .int .i64 0, .int .i64 0, .int .i64 0, .int .i64 0, .slice none 0 0, .slice none 0 0, .int .i64 6, .int .i64 0, .int .i64 0, .int .i64 0, .int .i64 0, .int .i64 0, .int .i64 0, .slice none 0 0, .slice none 0 0] 42)) := (Below.refl _ _).alloc (Nat.le_refl _) _
  have hb7 := HB6.out.trans (hal7.mono HB6.out.size)
  have HW7 := hid (kWith (a1 := a1) m.input.length c1 c2 3 (H2.out.below hb7) (lays3_alloc w6 42) (by omega) (by simp))
  have HB7 := hid hb7
  have HR7 := hid (HR6.out.below hal7)
  clear hb7 hal7
  simp only [List.length_cons, List.length_nil] at HW7
  go_wp2_with fail
  refine HW7.out.mono ?_
  rintro e w8 ⟨a8, c8, rfl, hla8, hb8⟩
  have HB8 := hid (HB7.out.trans (hb8.mono HB7.out.size))
  have HR8 := hid (HR7.out.below hb8)
  have HRv := hid (evRunX c1 c8 cx (H1.out.below HB8.out) hla8 HRg.out HSh.out (fun l hl => by simp at hl; rcases hl with rfl | rfl; exact relu_extra; exact flat_extra) (by simp) (HX0.out.below HB8.out) HP.out)
  rw [<- HTw.out.1, <- HR.out] at HRv
  generalize (m.layers ++ [exR, exR, flatL]).length = n8 at *
  clear hla8 hb8 HW7 l0 l1 l2 l3 l4 l5 l6 l7 l8 l9 x0 x1 xf xlt
  go_wp2_with fail
  refine HRv.out.mono ?_
  rintro e w9 ⟨a9, c9, rfl, hc9, hR9, hb9⟩
  rw [HEr.out, <- HN6.out]
  rw [<- HN6.out] at hc9
  have HB9 := hid (HB8.out.trans (hb9.mono HB8.out.size))
  have HRa := hid (HR8.out.below hb9)
  have HRb := hid hR9
  have HNeg := HTw.out.2
  rw [<- HR.out] at HNeg
  have HNeg := hid HNeg
  clear hR9 hb9 HRv
  go_wp2
  go_loopw [10] (fun i wr => ∃ j : Nat, j <= n6 /\ i = .int .i64 (j : Int) /\ Hid (w9 = wr)) (fun i _ => n6 - (intOf i).toNat)
  case atStart => exact ⟨0, Nat.zero_le _, rfl, rfl⟩
  case round =>
   obtain ⟨j, hj, rfl, HW⟩ := hrel
   have ew := HW.out
   clear HW
   subst ew
   by_cases hlt : j < n6
   ·obtain ⟨b, off, y, an, ad, cn, cd, rfl, hb, hy, y0, y1, y2, hv⟩ := HRa.out.pick (k := j) (by rw [<- HN6.out]; exact hlt)
    have hneg := HNeg.out y (List.mem_of_getElem? hy)
    rw [hneg] at y0
    clear hy hv hneg y1 y2
    go_wp2
    go_roundw
    case rel => exact ⟨j + 1, hlt, by go_num, by first | rfl | exact True.intro⟩
    case measure => simp [intOf]; omega
   ·obtain rfl : j = n6 := by omega
    have hC := r12Rats c6 c9 HRa.out HRb.out
    rw [show decide (R.1 = R.1) = true from decide_eq_true rfl, <- HN6.out] at hC
    have HC := hid hC
    have t1 : (er == er) = true := by simp
    clear hC
    go_wp2_with fail
    refine HC.out.mono ?_
    rintro e wa ⟨rfl, hba⟩
    have HBa := hid (HB9.out.trans (hba.mono HB9.out.size))
    clear hba
    go_wp2
    go_ret
    exact ⟨rfl, HBa.out⟩
end Go.Proofs.YtoppijdedkdjeaaGreat
namespace Go.Proofs.YtoppijdedkdjeaaGreat
open Go.RowKit Go.ChangeShapes Go.WideShapes Go.ChangeAt Go.Deep
open Go.Lib (hid)
theorem openU8e {H : Type} {enc : TypeId × Value -> H} {P : Program} {w : World} {base : Nat} {spare : Nat -> Bool} {held : Bool} {t : TypeId} {fuel : Nat} {c : Value} {x : DataW H × List MemPlace} (ht : P.underlying t = some (.int .u8)) (h : DataW.trod enc P w base spare held fuel t [c] = some x) :
  ∃ n : Nat, c = .int .u8 n /\ n <= 255 := by
 obtain ⟨n, h1, _, h2⟩ := DataW.trod_int ht h
 simp [Lit.wf, IntKind.min, IntKind.max, IntKind.bits, IntKind.signed] at h2
 refine ⟨n.toNat, ?_, by omega⟩
 rw [Int.toNat_of_nonneg (by omega)]
 simpa using h1
section
variable {H : Type} {enc : TypeId × Value -> H} {w : World} {base : Nat} {spare : Nat -> Bool} {held : Bool}
theorem open_tri {r : Reach} {b0 : Nat} {v : Value} {d : DataW H} {p : List MemPlace} (hv : Value.okWide Tryz.prog w r b0 54 v)
  (h : DataW.Trod enc Tryz.prog w base spare held 54 v d p) :
  ∃ k0 k1 k2 : Int, v = .agg #[.int .u8 k0, .int .u8 k1, .int .u8 k2] /\ (0 <= k0 /\ k0 <= 255) /\ (0 <= k1 /\ k1 <= 255) /\ 0 <= k2 /\ k2 <= 255 := by
 simp only [Value.okWide, Tryz.underlying54] at hv
 obtain ⟨cs, rfl, hcs, _⟩ := hv
 obtain ⟨fuel, hf⟩ := h
 obtain ⟨xs, m, _, hx, hcl, hxl, hi⟩ := DataW.trod_array Tryz.underlying54 hf
 obtain ⟨l⟩ := cs
 have hl : l.length = 3 := by have e : Tryz.prog.cellsOf 54 = 3 := by kernel_rfl
                              simpa [e] using hcs
 match l, hl with
 | [c0, c1, c2], _ =>
  match xs, hxl with
  | [y0, y1, y2], _ =>
   have h0 := hi 0 (by omega)
   have h1 := hi 1 (by omega)
   have h2 := hi 2 (by omega)
   have e : Tryz.prog.cellsOf 5 = 1 := by kernel_rfl
   rw [e] at h0 h1 h2
   have g0 := openU8e (c := c0) (x := y0) Tryz.underlying5 (by simpa [Value.cells] using h0)
   have g1 := openU8e (c := c1) (x := y1) Tryz.underlying5 (by simpa [Value.cells] using h1)
   have g2 := openU8e (c := c2) (x := y2) Tryz.underlying5 (by simpa [Value.cells] using h2)
   obtain ⟨n0, e0, p0⟩ := g0
   obtain ⟨n1, e1, p1⟩ := g1
   obtain ⟨n2, e2, p2⟩ := g2
   subst e0
   subst e1
   subst e2
   exact ⟨n0, n1, n2, rfl, ⟨by omega, by omega⟩, ⟨by omega, by omega⟩, by omega, by omega⟩
end
end Go.Proofs.YtoppijdedkdjeaaGreat
namespace Go.Proofs.YtoppijdedkdjeaaGreat
open Go.RowKit
open Go.Lib (hid)
theorem maxQ_relu (p q : Rat) : maxQ (maxQ p 0) (maxQ q 0) = maxQ (maxQ p q) 0 := by
 unfold maxQ
 by_cases a : 0 <= p <;> by_cases b : 0 <= q <;> by_cases c : q <= p
 ·simp [a, b, c]
 ·simp [a, b, c]
 ·simp [a, b, c]
 ·exact absurd (Rat.le_trans (Rat.le_of_lt (Rat.not_le.1 b)) a) c
 ·exact absurd (Rat.le_trans b c) a
 ·simp [a, b, c]; exact fun h => Rat.le_antisymm b h
 ·simp [a, b, c]
 ·simp [a, b, c]
theorem relu_at (x : List Rat) (i : Nat) : (reluQ x).getD i 0 = maxQ (x.getD i 0) 0 := by
 unfold reluQ
 rw [List.getD_eq_getElem?_getD, List.getD_eq_getElem?_getD, List.getElem?_map]
 cases x[i]? with
 | none => rfl
 | some q => rfl
theorem vals_relu (ix : List Int) (x : List Rat) : valsQ ix (reluQ x) = reluQ (valsQ ix x) := by
 unfold valsQ
 rw [show reluQ (ix.map fun i => x.getD i.toNat 0) = (ix.map fun i => x.getD i.toNat 0).map fun q => maxQ q 0 from rfl, List.map_map]
 exact List.map_congr_left fun i _ => relu_at x i.toNat
theorem pmax_relu (v : List Rat) : ∀ k, pmax (reluQ v) k = maxQ (pmax v k) 0
 | 0 => relu_at v 0
 | k + 1 => by
  show maxQ (pmax (reluQ v) k) ((reluQ v).getD (k + 1) 0) = maxQ (maxQ (pmax v k) (v.getD (k + 1) 0)) 0
  rw [pmax_relu v k, relu_at, maxQ_relu]
theorem max_relu (v : List Rat) : maxL (reluQ v) = maxQ (maxL v) 0 := by
 unfold maxL
 rw [pmax_relu, show (reluQ v).length = v.length by simp [reluQ]]
theorem pool_relu (C n : Nat) (win : List (List Int)) (x : List Rat) : poolQ maxL C n win (reluQ x) = reluQ (poolQ maxL C n win x) := by
 unfold poolQ
 rw [show reluQ ((List.range C).flatMap fun ch => (List.range win.length).map (poolAt maxL n win x ch)) = ((List.range C).flatMap fun ch => (List.range win.length).map (poolAt maxL n win x ch)).map fun q => maxQ q 0 from rfl, List.map_flatMap]
 congr 1
 funext ch
 rw [List.map_map]
 refine List.map_congr_left fun i _ => ?_
 unfold poolAt
 rw [vals_relu, max_relu]
 rfl
def mxL (kh kw st : Int) : LayL := ⟨3, 0, 0, kh, kw, st, 0, [], []⟩
theorem mx_ok {kh kw st : Int} (h1 : 1 <= kh /\ kh <= 3) (h2 : 1 <= kw /\ kw <= 3) (h3 : 1 <= st /\ st <= 3) (i : Int) : layOK (mxL kh kw st) i = true := by
 unfold layOK condL
 rw [if_neg (show ¬ (mxL kh kw st).kind = 1 from by show ¬ (3 : Int) = 1; decide), if_neg (show ¬ (mxL kh kw st).kind = 2 from by show ¬ (3 : Int) = 2; decide), if_pos (show (mxL kh kw st).kind = 3 ∨ (mxL kh kw st).kind = 4 from .inl rfl)]
 have k1 : sidB kh = true := by unfold sidB; rw [decide_eq_true h1.1, decide_eq_true (by omega)]; rfl
 have k2 : sidB kw = true := by unfold sidB; rw [decide_eq_true h2.1, decide_eq_true (by omega)]; rfl
 have k3 : sidB st = true := by unfold sidB; rw [decide_eq_true h3.1, decide_eq_true (by omega)]; rfl
 unfold kerB
 show (((sidB kh && (sidB kw && sidB st)) && (decide ((0 : Int) = 0 /\ (0 : Int) = 0 /\ (0 : Int) = 0) && noneB (mxL kh kw st))) && numsB (mxL kh kw st)) = true
 rw [k1, k2, k3]
 rfl
theorem maxRelu_run {m : ModL} {kh kw st : Int} (h1 : 1 <= kh /\ kh <= 3) (h2 : 1 <= kw /\ kw <= 3) (h3 : 1 <= st /\ st <= 3) (x : List Rat) (hl : m.layers.length <= 8) (h : (shapesL m).2.2 = 0) :
  runL ⟨m.input, m.layers ++ [mxL kh kw st, exR]⟩ x = runL ⟨m.input, m.layers ++ [exR, mxL kh kw st]⟩ x := by
 have e1 : m.layers ++ [mxL kh kw st, exR] = (m.layers ++ [mxL kh kw st]) ++ [exR] := by simp
 have e2 : m.layers ++ [exR, mxL kh kw st] = (m.layers ++ [exR]) ++ [mxL kh kw st] := by simp
 rw [e1, e2]
 obtain ⟨T, hf⟩ := fits_of x h
 have fr := relu_fits hf (by omega)
 obtain ⟨v1, v2, _⟩ := hf.valid
 have hok := mx_ok h1 h2 h3
 have hraw : rawL m.input (T ++ [currL m.input T]) (mxL kh kw st) = rawL m.input T (mxL kh kw st) := by
  unfold rawL
  rw [currL_snoc]
  rfl
 have ho : outSL m.input (T ++ [currL m.input T]) (mxL kh kw st) = outSL m.input T (mxL kh kw st) := by
  rw [outSL_fit v1 (by rw [List.length_append, hf.ch.1]; simp; omega) (hok _) (by rw [List.all_append, v2]; simp [curr_ok v1 v2]), outSL_fit v1 (by rw [hf.ch.1]; omega) (hok _) v2, hraw]
 by_cases hp : (outSL m.input T (mxL kh kw st)).2 = 0
 ·obtain ⟨s, hs⟩ : ∃ s, outSL m.input T (mxL kh kw st) = (s, 0) := ⟨(outSL m.input T (mxL kh kw st)).1, by rw [<- hp]⟩
  have f1 := hf.app (by omega) hs
  have f2 := relu_fits f1 (by simp; omega)
  rw [hs] at ho
  have f3 := fr.app (l := mxL kh kw st) (s := s) (by simp; omega) ho
  simp only [currL_snoc, currQ_snoc] at f2 f3
  have q1 : ∀ y z, layQ (mxL kh kw st) (currL m.input T) y z = poolQ maxL ((currL m.input T).getD 0 0).toNat (kh.toNat * kw.toNat) (windowsL (currL m.input T) kh kw st 0).1 y := fun y z => by
   unfold layQ
   rw [if_neg (show ¬ (mxL kh kw st).kind = 1 from by show ¬ (3 : Int) = 1; decide), if_neg (show ¬ (mxL kh kw st).kind = 2 from by show ¬ (3 : Int) = 2; decide), if_pos (show (mxL kh kw st).kind = 3 from rfl)]
   rfl
  rw [q1] at f2 f3
  rw [pool_relu] at f3
  rw [runL_eq, runL_eq, f2.sh, f3.sh, if_pos rfl, if_pos rfl, f2.tr, f3.tr, currQ_snoc, currQ_snoc]
 ·have h7 : (outSL m.input T (mxL kh kw st)).2 = 7 := outSL_seven v1 (by rw [hf.ch.1]; omega) (hok _) v2 hp
  have g1 := hf.fail (by omega) h7
  have g2 := err_app (m := ⟨m.input, m.layers ++ [mxL kh kw st]⟩) (l := exR) (by simp; omega) relu_ok (by rw [g1]; decide)
  have g3 := fr.fail (l := mxL kh kw st) (by simp; omega) (by rw [ho]; exact h7)
  simp only at g1 g2 g3
  rw [runL_eq, runL_eq, g2, g1, g3]
  rfl
theorem mx_extra {kh kw st : Int} (h1 : 1 <= kh /\ kh <= 3) (h2 : 1 <= kw /\ kw <= 3) (h3 : 1 <= st /\ st <= 3) : LayRange (mxL kh kw st) /\ LayLe (mxL kh kw st) /\ SmallL (mxL kh kw st) :=
 ⟨by unfold LayRange I64 mxL; simp; omega, ⟨by simp [mxL], by simp [mxL]⟩, ⟨by simp [mxL, wq, bq], by simp [mxL, wq, bq]⟩⟩
def imgB (m : ModL) : Bool := decide ((shapesL m).2.2 = 0) && decide ((currL m.input (shapesL m).1).length = 3)
def ImgPost (w : World) (m : ModL) (e : Ending) (w' : World) : Prop := ∃ a c, e = .returned (.tuple #[.slice a (currL m.input (shapesL m).1).length c, .bool (imgB m)]) /\ Ints w' Any a (currL m.input (shapesL m).1) /\ Below w.heap.size w w'
theorem kImage {w : World} {m : ModL} {a1 a2 : Option Addr} (c1 c2 : Nat) (h1 : Ints w Any a1 m.input) (h2 : LaysAt w a2 m.layers) (hr : ∀ l ∈ m.layers, LayRange l) (hs : ∀ l ∈ m.layers, LayLe l) :
  Calls Tryz.prog 21 #[.agg #[.slice a1 m.input.length c1, .slice a2 m.layers.length c2]] w (ImgPost w m) := by
 have q1 := h1.len
 have q2 := h2.len
 have hal : Below w.heap.size w (w.alloc (.cells #[.slice a1 m.input.length c1, .slice a2 m.layers.length c2] 25)) := (Below.refl _ _).alloc (Nat.le_refl _) _
 have hx := Box2.alloc w (.slice a1 m.input.length c1) (.slice a2 m.layers.length c2) 25
 have HO := hid (r13Of c1 c2 (h1.below hal) (h2.below hal) hr hs)
 have H1 := hid h1
 have HB := hid hal
 obtain ⟨P, hP⟩ : ∃ P, P = shapesL m := ⟨_, rfl⟩
 rw [<- hP] at HO
 have HP := hid hP
 clear h1 h2 hr hs hal hP
 go_enter Tryz.func21, Tryz.ntmps21
 go_upto_region 1 with fail
 generalize w.alloc (.cells #[.slice a1 m.input.length c1, .slice a2 m.layers.length c2] 25) = W at *
 have HX := hid hx
 obtain ⟨x0, x1, xf, xlt⟩ := hx
 obtain ⟨T, i, er⟩ := P
 go_wp2_with fail
 refine HO.out.mono ?_
 rintro e w3 ⟨⟨a, c, rfl, hT⟩, hb3⟩
 have HB3 := hid (HB.out.trans (hb3.mono HB.out.size))
 have HT := hid (hT.mono (F' := Any) (fun _ _ _ => trivial))
 simp only at hT ⊢
 have HI1 := hid (H1.out.below HB3.out)
 clear hb3 hT HO x0 x1 xf xlt HX
 obtain ⟨b, hb⟩ : ∃ b, b = imgB m := ⟨_, rfl⟩
 have hPost : ∀ (w' : World) (a' : Option Addr) (c' : Nat), Below w.heap.size w w' -> Ints w' Any a' (currL m.input (shapesL m).1) -> ImgPost w m (.returned (.tuple #[.slice a' (currL m.input (shapesL m).1).length c', .bool b])) w' := fun w' a' c' hb' hI => ⟨a', c', by rw [hb], hI, hb'⟩
 have HPost := hid hPost
 have hbv : b = (decide (er = 0) && decide ((currL m.input T).length = 3)) := by rw [hb]; unfold imgB; rw [<- HP.out]
 rw [show (shapesL m).1 = T by rw [<- HP.out]] at HPost
 have HBv := hid hbv
 have hTl := HT.out.len
 simp only at hTl
 clear hb hPost hbv
 by_cases hz : T = []
 ·subst hz
  have hc : currL m.input [] = m.input := rfl
  rw [hc] at HPost HBv
  clear hc
  by_cases h0 : er = 0
  ·have t1 : (er == 0) = true := by simp [h0]
   by_cases h3 : m.input.length = 3
   ·have HV : Hid (b = true) := by unfold Hid; rw [HBv.out, decide_eq_true h0, decide_eq_true h3]; rfl
    have t2 : ((m.input.length : Int) == 3) = true := by rw [h3]; rfl
    rw [HV.out] at HPost
    clear h0 h3
    go_wp2
    refine bodyPost_ret (results_tmp2 rfl _ _ _) rfl ?_
    exact HPost.out _ a1 c1 HB3.out HI1.out
   ·have HV : Hid (b = false) := by unfold Hid; rw [HBv.out, decide_eq_false h3, Bool.and_false]
    have t2 : ((m.input.length : Int) == 3) = false := by rw [beq_eq_false_iff_ne]; omega
    rw [HV.out] at HPost
    clear h0 h3
    go_wp2
    refine bodyPost_ret (results_tmp2 rfl _ _ _) rfl ?_
    exact HPost.out _ a1 c1 HB3.out HI1.out
  ·have HV : Hid (b = false) := by unfold Hid; rw [HBv.out, decide_eq_false h0]; rfl
   have t1 : (er == 0) = false := by rw [beq_eq_false_iff_ne]; exact h0
   rw [HV.out] at HPost
   clear h0
   go_wp2
   refine bodyPost_ret (results_tmp2 rfl _ _ _) rfl ?_
   exact HPost.out _ a1 c1 HB3.out HI1.out
 ·obtain ⟨j, hj⟩ : ∃ j, T.length = j + 1 := ⟨T.length - 1, by have := List.length_pos_iff.2 hz; omega⟩
  obtain ⟨bT, oT, s, aT, ct, haT, tc0, hTi, htc, hIt, hbT, _⟩ := HT.out.pickc (k := j) (by simp only; omega)
  simp only at hTi
  have hc : currL m.input T = s := by
   unfold currL
   rw [List.getLast?_eq_getElem?, hj, show j + 1 - 1 = j by omega, hTi]
   rfl
  rw [hc] at HPost HBv
  obtain ⟨nT, hnT⟩ : ∃ nT, nT = T.length := ⟨_, rfl⟩
  rw [<- hnT] at hTl hj ⊢
  have m0 : (nT : Int) - 1 = (j : Int) := by omega
  have t0 : decide ((0 : Int) < (nT : Int)) = true := decide_eq_true (by omega)
  have hjn : j < nT := by omega
  have HIt := hid hIt
  subst haT
  clear hc hTi hIt hnT hj hz
  by_cases h0 : er = 0
  ·have t1 : (er == 0) = true := by simp [h0]
   by_cases h3 : s.length = 3
   ·have HV : Hid (b = true) := by unfold Hid; rw [HBv.out, decide_eq_true h0, decide_eq_true h3]; rfl
    have t2 : ((s.length : Int) == 3) = true := by rw [h3]; rfl
    rw [HV.out] at HPost
    clear h0 h3
    go_wp2
    refine bodyPost_ret (results_tmp2 rfl _ _ _) rfl ?_
    exact HPost.out _ aT ct HB3.out HIt.out
   ·have HV : Hid (b = false) := by unfold Hid; rw [HBv.out, decide_eq_false h3, Bool.and_false]
    have t2 : ((s.length : Int) == 3) = false := by rw [beq_eq_false_iff_ne]; omega
    rw [HV.out] at HPost
    clear h0 h3
    go_wp2
    refine bodyPost_ret (results_tmp2 rfl _ _ _) rfl ?_
    exact HPost.out _ aT ct HB3.out HIt.out
  ·have HV : Hid (b = false) := by unfold Hid; rw [HBv.out, decide_eq_false h0]; rfl
   have t1 : (er == 0) = false := by rw [beq_eq_false_iff_ne]; exact h0
   rw [HV.out] at HPost
   clear h0
   go_wp2
   refine bodyPost_ret (results_tmp2 rfl _ _ _) rfl ?_
   exact HPost.out _ aT ct HB3.out HIt.out
theorem lays_mr (W : World) (kh kw st : Int) (T : Nat) : LaysAt (W.alloc (.cells #[.int .i64 3, .int .i64 0, .int .i64 0, .int .i64 kh, .int .i64 kw, .int .i64 st, .int .i64 0, .slice none 0 0, .slice none 0 0, .int .i64 5, .int .i64 0, .int .i64 0, .int .i64 0, .int .i64 0, .int .i64 0, .int .i64 0, .slice none 0 0, .slice none 0 0] T)) (some ⟨W.heap.size, 0, none⟩) [mxL kh kw st, exR] := by
 refine ⟨by simp, .inr ⟨W.heap.size, 0, rfl, by simp, fun j x hj => ?_⟩⟩
 match j, hj with
 | 0, hj =>
  simp at hj
  subst hj
  exact ⟨none, none, 0, 0, by refine ⟨?_, ?_, ?_, ?_, ?_, ?_, ?_, ?_, ?_⟩ <;> (rw [World.cell?_alloc_at _ _ _ _ rfl]; rfl), RatsAt.nil _ _, RatsAt.nil _ _⟩
 | 1, hj =>
  simp at hj
  subst hj
  exact ⟨none, none, 0, 0, by refine ⟨?_, ?_, ?_, ?_, ?_, ?_, ?_, ?_, ?_⟩ <;> (rw [World.cell?_alloc_at _ _ _ _ rfl]; rfl), RatsAt.nil _ _, RatsAt.nil _ _⟩
theorem lays_rm (W : World) (kh kw st : Int) (T : Nat) : LaysAt (W.alloc (.cells #[.int .i64 5, .int .i64 0, .int .i64 0, .int .i64 0, .int .i64 0, .int .i64 0, .int .i64 0, .slice none 0 0, .slice none 0 0, .int .i64 3, .int .i64 0, .int .i64 0, .int .i64 kh, .int .i64 kw, .int .i64 st, .int .i64 0, .slice none 0 0, .slice none 0 0] T)) (some ⟨W.heap.size, 0, none⟩) [exR, mxL kh kw st] := by
 refine ⟨by simp, .inr ⟨W.heap.size, 0, rfl, by simp, fun j x hj => ?_⟩⟩
 match j, hj with
 | 0, hj =>
  simp at hj
  subst hj
  exact ⟨none, none, 0, 0, by refine ⟨?_, ?_, ?_, ?_, ?_, ?_, ?_, ?_, ?_⟩ <;> (rw [World.cell?_alloc_at _ _ _ _ rfl]; rfl), RatsAt.nil _ _, RatsAt.nil _ _⟩
 | 1, hj =>
  simp at hj
  subst hj
  exact ⟨none, none, 0, 0, by refine ⟨?_, ?_, ?_, ?_, ?_, ?_, ?_, ?_, ?_⟩ <;> (rw [World.cell?_alloc_at _ _ _ _ rfl]; rfl), RatsAt.nil _ _, RatsAt.nil _ _⟩
theorem lawMaxRelu {w : World} {m : ModL} {L : List RatL} {a1 a2 ax : Option Addr} (c1 c2 cx : Nat) {k0 k1 k2 : Int} (b0 : 0 <= k0 /\ k0 <= 255) (b1 : 0 <= k1 /\ k1 <= 255) (b2 : 0 <= k2 /\ k2 <= 255) (h1 : Ints w Any a1 m.input) (h2 : LaysAt w a2 m.layers) (hr : ∀ l ∈ m.layers, LayRange l) (hs : ∀ l ∈ m.layers, LayLe l) (hX : RatsAt w ax L) (hL : ∀ x ∈ L, RatLe x 1048576) :
  Calls Tryz.prog 8 #[.agg #[.slice a1 m.input.length c1, .slice a2 m.layers.length c2], .slice ax L.length cx, .agg #[.int .u8 k0, .int .u8 k1, .int .u8 k2]] w fun e w' => e = .returned (.bool true) /\ Below w.heap.size w w' := by
 have q1 := h1.len
 have q2 := h2.len
 have q3 := hX.len
 have H1 := hid h1
 have H2 := hid h2
 have HRg := hid hr
 have HSh := hid hs
 have HX0 := hid hX
 have HL := hid hL
 have hb0 : Below w.heap.size w (w.alloc (.cells #[.slice a1 m.input.length c1, .slice a2 m.layers.length c2] 25)) := (Below.refl _ _).alloc (Nat.le_refl _) _
 have hx0 := Box2.alloc w (.slice a1 m.input.length c1) (.slice a2 m.layers.length c2) 25
 have hs0 : (w.alloc (.cells #[.slice a1 m.input.length c1, .slice a2 m.layers.length c2] 25)).heap.size = w.heap.size + 1 := by simp
 clear h1 h2 hr hs hX hL
 go_enter Tryz.func8, Tryz.ntmps8
 go_upto_region 1 with fail
 generalize w.alloc (.cells #[.slice a1 m.input.length c1, .slice a2 m.layers.length c2] 25) = Wa at *
 have hb1 : Below Wa.heap.size Wa (Wa.alloc (.cells #[.int .u8 k0, .int .u8 k1, .int .u8 k2] 54)) := (Below.refl _ _).alloc (Nat.le_refl _) _
 have hk := Box3.alloc Wa (.int .u8 k0) (.int .u8 k1) (.int .u8 k2) 54
 rw [hs0] at hk
 have HX := hid (hx0.below hb1)
 have HB := hid (hb0.trans (hb1.mono hb0.size))
 have HK := hid hk
 clear hb0 hx0 hs0 hb1 hk
 generalize Wa.alloc (.cells #[.int .u8 k0, .int .u8 k1, .int .u8 k2] 54) = W at *
 obtain ⟨x0, x1, xf, xlt⟩ := HX.out
 have HIm := hid (kImage c1 c2 (H1.out.below HB.out) (H2.out.below HB.out) HRg.out HSh.out)
 go_wp2_with fail
 refine HIm.out.mono ?_
 rintro e w1 ⟨aS, cS, rfl, hIs, hb1⟩
 have HB1 := hid (HB.out.trans (hb1.mono HB.out.size))
 have HX1 := hid (HX.out.below hb1)
 have HK1 := hid (HK.out.below hb1)
 clear hb1 hIs HIm HX HK x0 x1 xf xlt
 generalize hok : imgB m = ok
 generalize (currL m.input (shapesL m).1).length = ns at *
 have HOk := hid hok
 clear hok
 go_wp2_with fail
 refine (awake14 w1).mono ?_
 rintro e w2 ⟨rfl, hb2⟩
 have HB2 := hid (HB1.out.trans (hb2.mono HB1.out.size))
 have HX2 := hid (HX1.out.below hb2)
 have HK2 := hid (HK1.out.below hb2)
 clear hb2 HX1 HK1
 obtain ⟨x0, x1, xf, xlt⟩ := HX2.out
 have HF := hid (kFair14 c1 c2 cx (H1.out.below HB2.out) (H2.out.below HB2.out) (HX0.out.below HB2.out) HSh.out HL.out)
 cases hf : fairE m L with
 | false =>
  rw [hf] at HF
  clear hf
  go_wp2_with fail
  refine HF.out.mono ?_
  rintro e w3 ⟨rfl, hb3⟩
  have HB3 := hid (HB2.out.trans (hb3.mono HB2.out.size))
  clear hb3 x0 x1 xf xlt
  go_wp2_with fail
  refine (awake14 w3).mono ?_
  rintro e w4 ⟨rfl, hb4⟩
  have HB4 := hid (HB3.out.trans (hb4.mono HB3.out.size))
  clear hb4
  go_wp2
  go_ret
  exact ⟨rfl, HB4.out⟩
 | true =>
  rw [hf] at HF
  have HP := hid (fair_paid hf)
  clear hf
  go_wp2_with fail
  refine HF.out.mono ?_
  rintro e w3 ⟨rfl, hb3⟩
  have HB3 := hid (HB2.out.trans (hb3.mono HB2.out.size))
  have HX3 := hid (HX2.out.below hb3)
  have HK3 := hid (HK2.out.below hb3)
  clear hb3 HF x0 x1 xf xlt HX2 HK2
  cases ok with
  | false =>
   go_wp2_with fail
   refine (awake14 w3).mono ?_
   rintro e w4 ⟨rfl, hb4⟩
   have HB4 := hid (HB3.out.trans (hb4.mono HB3.out.size))
   clear hb4
   go_wp2
   go_ret
   exact ⟨rfl, HB4.out⟩
  | true =>
   have hl8 := HP.out.lens
   have hsz : (shapesL m).2.2 = 0 := by
    have h := HOk.out
    unfold imgB at h
    rw [Bool.and_eq_true, decide_eq_true_eq] at h
    exact h.1
   obtain ⟨y0, y1, y2, yf, ylt⟩ := HK3.out
   obtain ⟨x0, x1, xf, xlt⟩ := HX3.out
   go_upto_region 5 with fail
   have bkh : 1 <= 1 + k0 % 3 /\ 1 + k0 % 3 <= 3 := by omega
   have bkw : 1 <= 1 + k1 % 3 /\ 1 + k1 % 3 <= 3 := by omega
   have bst : 1 <= 1 + k2 % 2 /\ 1 + k2 % 2 <= 3 := by omega
   generalize 1 + k0 % 3 = kh at *
   generalize 1 + k1 % 3 = kw at *
   generalize 1 + k2 % 2 = st at *
   have HTw := hid (maxRelu_run (m := m) bkh bkw bst (L.map ratOf) hl8 hsz)
   obtain ⟨R, hR⟩ : ∃ R, R = runL ⟨m.input, m.layers ++ [mxL kh kw st, exR]⟩ (L.map ratOf) := ⟨_, rfl⟩
   have HR := hid hR
   have hal4 : Below w3.heap.size w3 (w3.alloc (.cells #[.int .i64 3, .int .i64 0, .int .i64 0, .int .i64 kh, .int .i64 kw, .int .i64 st, .int .i64 0, .slice none 0 0, .slice none 0 0] 42)) := (Below.refl _ _).alloc (Nat.le_refl _) _
   have HM4 := hid (Box9.alloc w3 (.int .i64 3) (.int .i64 0) (.int .i64 0) (.int .i64 kh) (.int .i64 kw) (.int .i64 st) (.int .i64 0) (.slice none 0 0) (.slice none 0 0) 42)
   have HX4 := hid (HX3.out.below hal4)
   have HB4 := hid (HB3.out.trans (hal4.mono HB3.out.size))
   clear hR hsz hal4 y0 y1 y2 yf ylt x0 x1 xf xlt
   generalize w3.alloc (.cells #[.int .i64 3, .int .i64 0, .int .i64 0, .int .i64 kh, .int .i64 kw, .int .i64 st, .int .i64 0, .slice none 0 0, .slice none 0 0] 42) = W4 at *
   have hal5 : Below W4.heap.size W4 (W4.alloc (.cells #[.int .i64 5, .int .i64 0, .int .i64 0, .int .i64 0, .int .i64 0, .int .i64 0, .int .i64 0, .slice none 0 0, .slice none 0 0] 42)) := (Below.refl _ _).alloc (Nat.le_refl _) _
   have HR5 := hid (Box9.alloc W4 (.int .i64 5) (.int .i64 0) (.int .i64 0) (.int .i64 0) (.int .i64 0) (.int .i64 0) (.int .i64 0) (.slice none 0 0) (.slice none 0 0) 42)
   have HM5 := hid (HM4.out.below hal5)
   have HX5 := hid (HX4.out.below hal5)
   have HB5 := hid (HB4.out.trans (hal5.mono HB4.out.size))
   clear hal5 HM4 HX4 HX3 HK3
   go_upto_region 6 with fail
   generalize W4.alloc (.cells #[.int .i64 5, .int .i64 0, .int .i64 0, .int .i64 0, .int .i64 0, .int .i64 0, .int .i64 0, .slice none 0 0, .slice none 0 0] 42) = W5 at *
   obtain ⟨x0, x1, xf, xlt⟩ := HX5.out
   obtain ⟨l0, l1, l2, l3, l4, l5, l6, l7, l8, l9⟩ := HM5.out
   obtain ⟨r0, r1, r2, r3, r4, r5, r6, r7, r8, r9⟩ := HR5.out
   have hal6 : Below W5.heap.size W5 (W5.alloc (.cells #[.int .i64 3, .int .i64 0, .int .i64 0, .int .i64 kh, .int .i64 kw, .int .i64 st, .int .i64 0, .slice none 0 0, .slice none 0 0, .int .i64 5, .int .i64 0, .int .i64 0, .int .i64 0, .int .i64 0, .int .i64 0, .int .i64 0, .slice none 0 0, .slice none 0 0] 42)) := (Below.refl _ _).alloc (Nat.le_refl _) _
   have hb6 := HB5.out.trans (hal6.mono HB5.out.size)
   have HW6 := hid (kWith (a1 := a1) m.input.length c1 c2 2 (H2.out.below hb6) (lays_mr W5 kh kw st 42) (by omega) (by simp))
   have HB6 := hid hb6
   have HX6 := hid (HX5.out.below hal6)
   have HM6 := hid (HM5.out.below hal6)
   have HR6 := hid (HR5.out.below hal6)
   clear hb6 hal6
   simp only [List.length_cons, List.length_nil] at HW6
   go_wp2_with fail
   refine HW6.out.mono ?_
   rintro e w7 ⟨a7, c7, rfl, hla7, hb7⟩
   have HB7 := hid (HB6.out.trans (hb7.mono HB6.out.size))
   have HX7 := hid (HX6.out.below hb7)
   have HM7 := hid (HM6.out.below hb7)
   have HR7 := hid (HR6.out.below hb7)
   have HRu := hid (evRunX c1 c7 cx (H1.out.below HB7.out) hla7 HRg.out HSh.out (fun l hl => by simp at hl; rcases hl with rfl | rfl; exact mx_extra bkh bkw bst; exact relu_extra) (by simp) (HX0.out.below HB7.out) HP.out)
   rw [<- HR.out] at HRu
   generalize (m.layers ++ [mxL kh kw st, exR]).length = n7 at *
   clear hla7 hb7 HW6 x0 x1 xf xlt l0 l1 l2 l3 l4 l5 l6 l7 l8 l9 r0 r1 r2 r3 r4 r5 r6 r7 r8 r9 HX5 HM5 HR5 HX6 HM6 HR6
   go_wp2_with fail
   refine HRu.out.mono ?_
   rintro e w8 ⟨a8, c8, rfl, hc8, hR8, hb8⟩
   have HB8 := hid (HB7.out.trans (hb8.mono HB7.out.size))
   have HX8 := hid (HX7.out.below hb8)
   have HM8 := hid (HM7.out.below hb8)
   have HR8 := hid (HR7.out.below hb8)
   have HQ8 := hid hR8
   obtain ⟨n8, hn8⟩ : ∃ n8, n8 = R.1.length := ⟨_, rfl⟩
   have hn83 : n8 <= 9223372036854775807 := by rw [hn8]; exact hR8.len
   generalize her : R.2 = er at *
   rw [<- hn8] at hc8 ⊢
   have HN8 := hid hn8
   have HEr := hid her
   clear hR8 hb8 HRu hn8 her HX7 HM7 HR7
   obtain ⟨x0, x1, xf, xlt⟩ := HX8.out
   obtain ⟨l0, l1, l2, l3, l4, l5, l6, l7, l8, l9⟩ := HM8.out
   obtain ⟨r0, r1, r2, r3, r4, r5, r6, r7, r8, r9⟩ := HR8.out
   have hal9 : Below w8.heap.size w8 (w8.alloc (.cells #[.int .i64 5, .int .i64 0, .int .i64 0, .int .i64 0, .int .i64 0, .int .i64 0, .int .i64 0, .slice none 0 0, .slice none 0 0, .int .i64 3, .int .i64 0, .int .i64 0, .int .i64 kh, .int .i64 kw, .int .i64 st, .int .i64 0, .slice none 0 0, .slice none 0 0] 42)) := (Below.refl _ _).alloc (Nat.le_refl _) _
   have hb9 := HB8.out.trans (hal9.mono HB8.out.size)
   have HW9 := hid (kWith (a1 := a1) m.input.length c1 c2 2 (H2.out.below hb9) (lays_rm w8 kh kw st 42) (by omega) (by simp))
   have HB9 := hid hb9
   have HX9 := hid (HX8.out.below hal9)
   have HM9 := hid (HM8.out.below hal9)
   have HR9 := hid (HR8.out.below hal9)
   have HQ9 := hid (HQ8.out.below hal9)
   clear hb9 hal9
   simp only [List.length_cons, List.length_nil] at HW9
   go_wp2_with fail
   refine HW9.out.mono ?_
   rintro e wa ⟨aa, ca, rfl, hlaa, hba⟩
   have HBa := hid (HB9.out.trans (hba.mono HB9.out.size))
   have HQa := hid (HQ9.out.below hba)
   have HRv := hid (evRunX c1 ca cx (H1.out.below HBa.out) hlaa HRg.out HSh.out (fun l hl => by simp at hl; rcases hl with rfl | rfl; exact relu_extra; exact mx_extra bkh bkw bst) (by simp) (HX0.out.below HBa.out) HP.out)
   rw [<- HTw.out, <- HR.out] at HRv
   generalize (m.layers ++ [exR, mxL kh kw st]).length = na at *
   clear hlaa hba HW9 x0 x1 xf xlt l0 l1 l2 l3 l4 l5 l6 l7 l8 l9 r0 r1 r2 r3 r4 r5 r6 r7 r8 r9
   go_wp2_with fail
   refine HRv.out.mono ?_
   rintro e wb ⟨ab, cb, rfl, hcb, hRb, hbb⟩
   rw [HEr.out, <- HN8.out]
   rw [<- HN8.out] at hcb
   have HBb := hid (HBa.out.trans (hbb.mono HBa.out.size))
   have hC := r12Rats c8 cb (HQa.out.below hbb) hRb
   rw [show decide (R.1 = R.1) = true from decide_eq_true rfl, <- HN8.out] at hC
   have HC := hid hC
   have t1 : (er == er) = true := by simp
   clear hC hRb hbb HRv
   go_wp2_with fail
   refine HC.out.mono ?_
   rintro e wc ⟨rfl, hbc⟩
   have HBc := hid (HBb.out.trans (hbc.mono HBb.out.size))
   clear hbc
   go_wp2
   go_ret
   exact ⟨rfl, HBc.out⟩
end Go.Proofs.YtoppijdedkdjeaaGreat

/-
  Contracts of the functions that the statement reaches: Range, Tile.
-/
import Derived.Test.YtoppijdedkdjeaaGreatG1
import Derived.RangeFuncNested
import Derived.RangeFuncBound
import Derived.RangeFuncCalls
import Derived.RangeFuncLeaves
import Derived.Shelf.Abstract
import Derived.Shelf.RegionOpen
import Derived.OwnWalkIn
import Derived.TacticsInMore
import Derived.LoopNIn
import Derived.LoopIn
set_option linter.unusedVariables false
set_option linter.unusedSimpArgs false
set_option linter.constructorNameAsVariable false
set_option linter.deprecated false
set_option maxRecDepth 100000
set_option maxHeartbeats 3200000
namespace Go.Proofs.YtoppijdedkdjeaaGreat
open Go.RowKit Go.Shelf
open Go.Lib (hid)
structure Held (Pr : Nat -> Prop) (A B : World) : Prop where
 os : B.os = A.os
 tape : B.tape = A.tape
 output : B.output = A.output
 size : A.heap.size <= B.heap.size
 block : ∀ k, Pr k -> B.heap[k]? = A.heap[k]?
theorem Held.refl (Pr : Nat -> Prop) (A : World) : Held Pr A A := ⟨rfl, rfl, rfl, Nat.le_refl _, fun _ _ => rfl⟩
theorem Held.trans {Pr : Nat -> Prop} {A B C : World} (h : Held Pr A B) (k : Held Pr B C) : Held Pr A C :=
 ⟨k.os.trans h.os, k.tape.trans h.tape, k.output.trans h.output, Nat.le_trans h.size k.size, fun i hi => (k.block i hi).trans (h.block i hi)⟩
theorem Held.of_below {Pr : Nat -> Prop} {A B : World} {n : Nat} (h : Below n A B) (hp : ∀ k, Pr k -> k < n) : Held Pr A B := ⟨h.os, h.tape, h.output, h.size, fun k hk => h.block k (hp k hk)⟩
theorem Held.below {Pr : Nat -> Prop} {A B : World} {n : Nat} (h : Held Pr A B) (hp : ∀ k, k < n -> Pr k) : Below n A B := ⟨h.os, h.tape, h.output, h.size, fun k hk => h.block k (hp k hk)⟩
theorem Held.setCell {Pr : Nat -> Prop} {A B : World} (h : Held Pr A B) {p : Addr} (hp : ¬ Pr p.block) (u : Value) : Held Pr A (B.setCell p u) :=
 h.trans ⟨rfl, rfl, rfl, by simp [World.setCell], fun k hk => Below.heap_setCell _ _ _ _ (fun e => hp (e ▸ hk))⟩
theorem Held.alloc {Pr : Nat -> Prop} {A B : World} (h : Held Pr A B) (hp : ∀ k, Pr k -> k < A.heap.size) (o : Obj) : Held Pr A (B.alloc o) :=
 h.trans ⟨rfl, rfl, rfl, by simp, fun k hk => Below.heap_alloc _ _ _ (Nat.lt_of_lt_of_le (hp k hk) h.size)⟩
theorem Held.cell {Pr : Nat -> Prop} {A B : World} (h : Held Pr A B) {p : Addr} (hp : Pr p.block) : B.cell? p = A.cell? p := World.cell?_of_block (w := A) (h.block p.block hp)
def IterOk (F : Fence) (n : Nat) (P : Program) (gf : Nat) (lb : Array Value) (N : Nat) (Cx : Nat -> Array Value -> World -> Prop) (Pr : Nat -> Prop) (W0 : World) : Prop :=
 ∀ (l : Nat) (I : Nat -> World -> Prop) (Ix : World -> Prop) (W : World), Held Pr W0 W ->
  (∀ k A B, I k A -> Below A.heap.size A B -> I k B) ->
  (∀ k A, I k A -> Held Pr W A) ->
  (∀ k A xs, I k A -> k < N -> Cx k xs A -> YieldAt F (n - 1) P l xs A fun e B => (e = .returned (.bool true) /\ I (k + 1) B) ∨ (e = .returned (.bool false) /\ Ix B)) ->
  I 0 W ->
  CallsIn F n P gf (#[.func (.yield l) #[] #[]] ++ lb) W fun e B => (∃ v, e = .returned v) /\ (I N B ∨ Ix B)
def iterPost (Pr : Nat -> Prop) (I : World -> Prop) (Ix : Code -> World -> Prop) (W : World) : Exit -> Act -> World -> Prop
 | .normal, _, W' => KeepsOthers W W' /\ Held Pr W W' /\ I W'
 | .ret, _, W' => KeepsOthers W W' /\ Held Pr W W' /\ Ix .ret W'
 | .exit id, _, W' => KeepsOthers W W' /\ Held Pr W W' /\ Ix (.exit id) W'
 | .goto t, _, W' => KeepsOthers W W' /\ Held Pr W W' /\ Ix (.goto t) W'
 | .panic _, _, _ => False
 | .outgrown, _, _ => False
variable {F : Fence} {n : Nat} {P : Program}
theorem wpIn_iter {g : Operand} {ps : Array Tmp} {assign body : Code} {Q : Exit -> Act -> World -> Prop} {a : Act} {w : World}
  (hro : F.round = none) (h1 : 1 <= n) {gf : Nat} {lb : Array Value} (hg : a.eval g = .func (.func gf) #[] lb) (hFg : F.fn gf) (eg : ∀ args w, (callFunc gf args).run P w = .ok (.enter gf args) w)
  {N : Nat} {Cx : Nat -> Array Value -> World -> Prop} {Pr : Nat -> Prop} (hit : IterOk F (n - 1) P gf lb N Cx Pr w) (hPr : ∀ b, Pr b -> b < w.heap.size) (hps : ∀ k xs W, Cx k xs W -> xs.size = ps.size)
  (I : Nat -> World -> Prop) (Ix : Code -> World -> Prop) (hI : Own I) (hIx : ∀ c, Own (fun (_ : Unit) => Ix c)) (h0 : I 0 w)
  (hbody : ∀ (l k : Nat) (xs : Array Value) (W : World), I k W -> k < N -> Cx k xs W -> Held Pr w W ->
   assign.wpIn (F.inRound l) (n - 1 - 1) P (Exit.then (fun a₁ w₁ => KeepsOthers W w₁ /\ Held Pr W w₁ /\ ∃ J : World -> Prop, Own (fun (_ : Unit) => J) /\ J w₁ /\
    ∀ W2, J W2 -> Held Pr w W2 -> body.wpIn (F.inRound l) (n - 1 - 1) P (iterPost Pr (I (k + 1)) Ix W2) a₁ W2) (fun _ _ _ => False))
    { tmps := (ps.zip xs).foldl (fun t (p, v) => t.setIfInBounds p v) a.tmps, defers := [] } W)
  (hdone : ∀ (D : Nat) (W : World), w.heap.size <= D -> I N W -> Held Pr w W -> W.heap[D]? = some (.deferred (some [])) -> Q .normal { a with defers := { target := .collected D, args := #[] } :: a.defers } W)
  (hstop : ∀ (D : Nat) (c : Code) (W : World), w.heap.size <= D -> Ix c W -> Held Pr w W -> W.heap[D]? = some (.deferred (some [])) -> c.wpIn F n P Q { a with defers := { target := .collected D, args := #[] } :: a.defers } W) :
  (Code.rangeFunc g ps assign body).wpIn F n P Q a w := by
 refine wpIn_rangeFunc fun fn hfn => ?_
 rw [hro]
 -- the record and the block for deferred calls
 let rec' : LoopState -> Option Code -> Loop := fun st pe => { state := st, pending := pe, fn, tmps := a.tmps, params := ps, assign, body, defers := w.heap.size }
 let D := w.heap.size
 let l := w.heap.size + 1
 let W1 := (w.alloc (.deferred (some []))).alloc (.loop (rec' .ready none))
 have hL1 : W1.heap[l]? = some (.loop (rec' .ready none)) := by
  have := World.alloc_heap_new (w.alloc (.deferred (some []))) (.loop (rec' .ready none)); rwa [World.size_alloc] at this
 have hD1 : W1.heap[D]? = some (.deferred (some [])) := (Below.heap_alloc _ _ _ (by simp [D])).trans (World.alloc_heap_new w _)
 have hHd : Held Pr w W1 := ((Held.refl _ _).alloc hPr _).alloc hPr _
 have hI1 : I 0 W1 := hI.alloc _ (hI.alloc _ h0)
 refine ⟨l, [{ target := .collected D, args := #[] }], W1, { target := .fn (.func gf) lb, args := #[.func (.yield l) #[] #[]] }, W1, gf, #[.func (.yield l) #[] #[]] ++ lb, W1,
  run_enterLoop_outer _ _ _ _ _, ?_, ?_, ?_, fun _ => h1, ?_⟩
 ·simp only [resolve, hg]
  simp [go_sem]
 ·intro f' hf'; simp [Target.leads] at hf'; subst hf'; exact hFg
 ·simp [invoke, go_sem, eg]
 have put : ∀ (W : World) (o o' : Obj), w.heap.size + 1 <= W.heap.size -> W.heap[l]? = some o -> Held Pr W (W.putObj l o') := fun W o o' _ _ =>
  ⟨rfl, rfl, rfl, by simp, fun k hk => World.putObj_heap_other (fun e => by have := hPr k hk; simp only [l] at e; omega)⟩
 refine (hit l (fun k A => I k A /\ A.heap[l]? = some (.loop (rec' .ready none)) /\ A.heap[D]? = some (.deferred (some [])) /\ Held Pr W1 A)
  (fun A => ∃ c, Ix c A /\ A.heap[l]? = some (.loop (rec' .done (some c))) /\ A.heap[D]? = some (.deferred (some [])) /\ Held Pr W1 A) W1 hHd ?_ (fun k A h => h.2.2.2) ?_ ⟨hI1, hL1, hD1, Held.refl _ _⟩).mono ?_
 ·rintro k A B ⟨hi, hl, hd, hh⟩ hb
  have hlt : l < A.heap.size := (Array.getElem?_eq_some_iff.1 hl).1
  have hg' : A.grownBy B none := ⟨hb.os, hb.tape, hb.output, hb.size, fun k hk _ => hb.block k hk⟩
  exact ⟨hI _ _ _ none hi hg' (fun r e => by cases e), (hb.block l hlt).trans hl, (hb.block D (by simp only [D]; simp only [l] at hlt; omega)).trans hd,
   hh.trans (Held.of_below hb (fun k hk => by have := hPr k hk; have := hh.size; have := hHd.size; omega))⟩
 ·rintro k W xs ⟨hi, hl, hd, hh⟩ hk hcx
  have hlt : l < W.heap.size := (Array.getElem?_eq_some_iff.1 hl).1
  have hww : Held Pr w W := hHd.trans hh
  have hy := run_yield (P := P) (args := xs) hl (hps k xs W hcx)
  refine ⟨fn, _, assign, body, hy, roundIn_of_wpIn hfn (wpIn_mono (hbody l k xs W hi hk hcx hww) ?_)⟩
  intro e a₁ w₁ hp
  cases e with
  | normal =>
   obtain ⟨hkw, hqw, J, hJ, hj, hb⟩ := hp
   have hl := hkw.same _ _ hl rfl
   have hd := hkw.same _ _ hd rfl
   have hlt : l < w₁.heap.size := (Array.getElem?_eq_some_iff.1 hl).1
   have hww := hww.trans hqw
   have hh := hh.trans hqw
   refine ⟨_, run_beginRound hl rfl, ?_⟩
   have hl2 : (w₁.putObj l (.loop { rec' .ready none with state := .busy })).heap[l]? = some (.loop { rec' .ready none with state := .busy }) := World.putObj_heap_same hlt
   have hd2 : (w₁.putObj l (.loop { rec' .ready none with state := .busy })).heap[D]? = some (.deferred (some [])) := (World.putObj_heap_other (by simp only [D, l]; omega)).trans hd
   have hh2 : Held Pr w₁ (w₁.putObj l (.loop { rec' .ready none with state := .busy })) := put _ _ _ (by simp only [l] at hlt; omega) hl
   refine wpIn_mono (hb _ (hJ.putObj (s := ()) _ hj hl rfl) (hww.trans hh2)) ?_
   have fin : ∀ (jump : Option Code) (W3 : World), KeepsOthers (w₁.putObj l (.loop { rec' .ready none with state := .busy })) W3 ->
     (Instr.endRound l jump).run P W3 = .ok (.bool jump.isNone) (W3.putObj l (.loop (rec' (if jump.isNone then .ready else .done) jump))) /\
     W3.heap[l]? = some (.loop { rec' .ready none with state := .busy }) /\ W3.heap[D]? = some (.deferred (some [])) /\
     (W3.putObj l (.loop (rec' (if jump.isNone then .ready else .done) jump))).heap[l]? = some (.loop (rec' (if jump.isNone then .ready else .done) jump)) /\
     (W3.putObj l (.loop (rec' (if jump.isNone then .ready else .done) jump))).heap[D]? = some (.deferred (some [])) := fun jump W3 hk3 => by
    have hl3 := hk3.same _ _ hl2 rfl
    have hd3 := hk3.same _ _ hd2 rfl
    exact ⟨run_endRound (P := P) jump hl3, hl3, hd3, World.putObj_heap_same (Array.getElem?_eq_some_iff.1 hl3).1, (World.putObj_heap_other (by simp only [D, l]; omega)).trans hd3⟩
   intro e a3 W3 hp
   cases e with
   | normal =>
    obtain ⟨hk3, hq3, hi3⟩ := hp
    obtain ⟨hr, hl3, hd3, hl4, hd4⟩ := fin none W3 hk3
    exact ⟨_, _, hr, .inl ⟨rfl, hI.putObj _ hi3 hl3 rfl, hl4, hd4, ((hh.trans hh2).trans hq3).trans (put _ _ _ (by have := (Array.getElem?_eq_some_iff.1 hl3).1; simp only [l] at this; omega) hl3)⟩⟩
   | ret =>
    obtain ⟨hk3, hq3, hi3⟩ := hp
    obtain ⟨hr, hl3, hd3, hl4, hd4⟩ := fin (some .ret) W3 hk3
    exact ⟨_, _, hr, .inr ⟨rfl, .ret, (hIx _).putObj (s := ()) _ hi3 hl3 rfl, hl4, hd4, ((hh.trans hh2).trans hq3).trans (put _ _ _ (by have := (Array.getElem?_eq_some_iff.1 hl3).1; simp only [l] at this; omega) hl3)⟩⟩
   | exit id =>
    obtain ⟨hk3, hq3, hi3⟩ := hp
    obtain ⟨hr, hl3, hd3, hl4, hd4⟩ := fin (some (.exit id)) W3 hk3
    exact ⟨_, _, hr, .inr ⟨rfl, .exit id, (hIx _).putObj (s := ()) _ hi3 hl3 rfl, hl4, hd4, ((hh.trans hh2).trans hq3).trans (put _ _ _ (by have := (Array.getElem?_eq_some_iff.1 hl3).1; simp only [l] at this; omega) hl3)⟩⟩
   | goto t =>
    obtain ⟨hk3, hq3, hi3⟩ := hp
    obtain ⟨hr, hl3, hd3, hl4, hd4⟩ := fin (some (.goto t)) W3 hk3
    exact ⟨_, _, hr, .inr ⟨rfl, .goto t, (hIx _).putObj (s := ()) _ hi3 hl3 rfl, hl4, hd4, ((hh.trans hh2).trans hq3).trans (put _ _ _ (by have := (Array.getElem?_eq_some_iff.1 hl3).1; simp only [l] at this; omega) hl3)⟩⟩
   | panic ch => exact hp.elim
   | outgrown => exact hp.elim
  | exit id => exact hp.elim
  | goto t => exact hp.elim
  | ret => exact hp.elim
  | panic ch => exact hp.elim
  | outgrown => exact hp.elim
 ·rintro e W2 ⟨⟨v, rfl⟩, (⟨hi, hl, hd, hh⟩ | ⟨c, hi, hl, hd, hh⟩)⟩
  ·refine ⟨none, _, run_endLoop (P := P) hl (by simp [rec']), ?_⟩
   exact hdone D _ (Nat.le_refl _) (hI.putObj _ hi hl rfl) ((hHd.trans hh).trans (put _ _ _ (by have := (Array.getElem?_eq_some_iff.1 hl).1; simp only [l] at this; omega) hl)) ((World.putObj_heap_other (by simp only [D, l]; omega)).trans hd)
  ·refine ⟨some c, _, run_endLoop (P := P) hl (by simp [rec']), ?_⟩
   exact hstop D c _ (Nat.le_refl _) ((hIx c).putObj (s := ()) _ hi hl rfl) ((hHd.trans hh).trans (put _ _ _ (by have := (Array.getElem?_eq_some_iff.1 hl).1; simp only [l] at this; omega) hl)) ((World.putObj_heap_other (by simp only [D, l]; omega)).trans hd)
attribute [local go_sem] Oper.semAt_some
def cutN (n s : Nat) : Nat := (n + s - 1) / s
theorem cutN_lt {n s i : Nat} (hs : 1 <= s) : i < cutN n s ↔ i * s < n := by
 unfold cutN
 rw [<- Nat.succ_le_iff, Nat.le_div_iff_mul_le (by omega), Nat.succ_mul]
 omega
theorem cutN_pos {n s : Nat} (hs : 1 <= s) (hn : 1 <= n) : 1 <= cutN n s := by
 have := (cutN_lt (n := n) (i := 0) hs).2 (by omega)
 omega
def cutAt (n h i : Nat) : Nat := if i < cutN n (min h n) then i * min h n else n
theorem cut_step {n h i : Nat} (hn : 1 <= n) (hh : 1 <= h) (hi : i < cutN n (min h n)) : cutAt n h i < n /\ cutAt n h i + min h (n - cutAt n h i) = cutAt n h (i + 1) /\ 1 <= min h (n - cutAt n h i) := by
 have hs : 1 <= min h n := by omega
 have h1 := (cutN_lt hs).1 hi
 have e : cutAt n h i = i * min h n := by simp [cutAt, hi]
 rw [e]
 refine ⟨h1, ?_, by omega⟩
 unfold cutAt
 have e2 : (i + 1) * min h n = i * min h n + min h n := Nat.succ_mul _ _
 by_cases h2 : i + 1 < cutN n (min h n)
 ·have h3 := (cutN_lt hs).1 h2
  rw [if_pos h2]
  omega
 ·rw [if_neg h2]
  have h3 : ¬ (i + 1) * min h n < n := fun h => h2 ((cutN_lt hs).2 h)
  omega
theorem cutAt_zero {n h : Nat} (hn : 1 <= n) (hh : 1 <= h) : cutAt n h 0 = 0 := by
 have := cutN_pos (n := n) (s := min h n) (by omega) hn
 simp [cutAt]; omega
theorem cutAt_end {n h : Nat} : cutAt n h (cutN n (min h n)) = n := by simp [cutAt]
def tileV (rows cols h wd k : Nat) : Value :=
 .agg #[.int .i64 (cutAt rows h (k / cutN cols (min wd cols)) : Nat), .int .i64 (cutAt cols wd (k % cutN cols (min wd cols)) : Nat),
  .int .i64 (min h (rows - cutAt rows h (k / cutN cols (min wd cols))) : Nat), .int .i64 (min wd (cols - cutAt cols wd (k % cutN cols (min wd cols))) : Nat)]
def tilesN (rows cols h wd : Nat) : Nat := cutN rows (min h rows) * cutN cols (min wd cols)
theorem tilesIter (F : Fence) (n : Nat) (hF : F.fn 91) (hro : F.round = none) (hn : 1 <= n) (b : Nat) (rows cols h wd : Nat) (hr1 : 1 <= rows) (hc1 : 1 <= cols) (hh1 : 1 <= h) (hw1 : 1 <= wd)
  (hr2 : rows <= 9223372036854775807) (hc2 : cols <= 9223372036854775807) (hh2 : h <= 9223372036854775807) (hw2 : wd <= 9223372036854775807) (Pr : Nat -> Prop) (hp0 : Pr b) (hp1 : Pr (b + 1)) (hp2 : Pr (b + 2)) (hp3 : Pr (b + 3)) (W0 : World)
  (c0 : W0.cell? ⟨b, 0, none⟩ = some (.int .i64 rows)) (c1 : W0.cell? ⟨b + 1, 0, none⟩ = some (.int .i64 cols)) (c2 : W0.cell? ⟨b + 2, 0, none⟩ = some (.int .i64 h)) (c3 : W0.cell? ⟨b + 3, 0, none⟩ = some (.int .i64 wd)) :
  IterOk F n Tryz.prog 91 #[.pointer (some ⟨b, 0, none⟩), .pointer (some ⟨b + 1, 0, none⟩), .pointer (some ⟨b + 2, 0, none⟩), .pointer (some ⟨b + 3, 0, none⟩)] (tilesN rows cols h wd)
   (fun k xs _ => xs = #[tileV rows cols h wd k]) Pr W0 := by
 intro l I Ix W hW hIb hIW hY h0
 have HC : Hid (∀ k A, I k A -> A.cell? ⟨b, 0, none⟩ = some (.int .i64 rows) /\ A.cell? ⟨b + 1, 0, none⟩ = some (.int .i64 cols) /\ A.cell? ⟨b + 2, 0, none⟩ = some (.int .i64 h) /\ A.cell? ⟨b + 3, 0, none⟩ = some (.int .i64 wd)) := fun k A hi => by
  have hh := hW.trans (hIW k A hi)
  exact ⟨(hh.cell (p := ⟨b, 0, none⟩) hp0).trans c0, (hh.cell (p := ⟨b + 1, 0, none⟩) hp1).trans c1, (hh.cell (p := ⟨b + 2, 0, none⟩) hp2).trans c2, (hh.cell (p := ⟨b + 3, 0, none⟩) hp3).trans c3⟩
 obtain ⟨d0, d1, d2, d3⟩ := HC.out 0 W h0
 have HY := hid hY
 clear hY hIb hIW c0 c1 c2 c3 hW
 refine callsIn_of_wp Tryz.func91 rfl hF ?_ hro
 simp only [Tryz.ntmps91, List.size_toArray, List.length_cons, List.length_nil, Nat.reduceAdd, Nat.reduceSub, Array.replicate_succ, Array.replicate_zero, List.push_toArray, List.append_toArray, List.nil_append, List.cons_append]
 gi_wp2
 clear d0 d1 d2 d3
 gi_loopw [6] (fun r wr => ∃ i : Nat, i <= cutN rows (min h rows) /\ r = .int .i64 (cutAt rows h i : Nat) /\ I (i * cutN cols (min wd cols)) wr) (fun r _ => rows - (intOf r).toNat)
 case atStart => exact ⟨0, Nat.zero_le _, by rw [cutAt_zero hr1 hh1]; rfl, by simpa using h0⟩
 case round =>
  obtain ⟨i, hi, rfl, hIi⟩ := hrel
  obtain ⟨d0, d1, d2, d3⟩ := HC.out _ _ hIi
  by_cases hlt : i < cutN rows (min h rows)
  ·obtain ⟨s1, s2, s3⟩ := cut_step hr1 hh1 hlt
   have HS2 := hid s2
   have HI := hid hIi
   clear s2 hIi
   generalize hrr : cutAt rows h i = r at *
   have HR := hid hrr
   clear hrr
   have s1' : (r : Int) < (rows : Int) := by omega
   gi_wp2
   clear d0 d1 d2 d3
   gi_loopw [7] (fun c wi => ∃ j : Nat, j <= cutN cols (min wd cols) /\ c = .int .i64 (cutAt cols wd j : Nat) /\ Hid (I (i * cutN cols (min wd cols) + j) wi)) (fun c _ => cols - (intOf c).toNat)
   case atStart => exact ⟨0, Nat.zero_le _, by rw [cutAt_zero hc1 hw1]; rfl, HI⟩
   case round =>
    obtain ⟨j, hj, rfl, hIj⟩ := hrel
    obtain ⟨d0, d1, d2, d3⟩ := HC.out _ _ hIj.out
    by_cases hltj : j < cutN cols (min wd cols)
    ·obtain ⟨t1, t2, t3⟩ := cut_step hc1 hw1 hltj
     have HT2 := hid t2
     clear t2
     have hk : i * cutN cols (min wd cols) + j < tilesN rows cols h wd := by
      have : (i + 1) * cutN cols (min wd cols) <= cutN rows (min h rows) * cutN cols (min wd cols) := Nat.mul_le_mul_right _ hlt
      rw [Nat.succ_mul] at this
      unfold tilesN; omega
     have hv : tileV rows cols h wd (i * cutN cols (min wd cols) + j) = .agg #[.int .i64 (cutAt rows h i : Nat), .int .i64 (cutAt cols wd j : Nat), .int .i64 (min h (rows - cutAt rows h i) : Nat), .int .i64 (min wd (cols - cutAt cols wd j) : Nat)] := by
      have e1 : (i * cutN cols (min wd cols) + j) / cutN cols (min wd cols) = i := by
       rw [Nat.mul_comm, Nat.mul_add_div (by omega), Nat.div_eq_of_lt hltj, Nat.add_zero]
      have e2 : (i * cutN cols (min wd cols) + j) % cutN cols (min wd cols) = j := by
       rw [Nat.mul_comm, Nat.mul_add_mod_self_left, Nat.mod_eq_of_lt hltj]
      unfold tileV
      rw [e1, e2]
     rw [HR.out] at hv
     have HYk := HY.out _ wr _ hIj.out hk rfl
     rw [hv] at HYk
     obtain ⟨fn, tmps, assign, body, hy, hR⟩ := HYk
     have HRo := hid hR
     clear hR hv hk
     generalize hcc : cutAt cols wd j = c at *
     have HCC := hid hcc
     clear hcc
     have t1' : (c : Int) < (cols : Int) := by omega
     have m1 : (if (rows : Int) - r < h then (rows : Int) - r else h) = ((min h (rows - r) : Nat) : Int) := by split <;> omega
     have m2 : (if (cols : Int) - c < wd then (cols : Int) - c else wd) = ((min wd (cols - c) : Nat) : Int) := by split <;> omega
     generalize hq1 : min h (rows - r) = q1 at *
     generalize hq2 : min wd (cols - c) = q2 at *
     have g1 : r + q1 <= rows := by omega
     have g2 : c + q2 <= cols := by omega
     have HQ1 := hid hq1
     have HQ2 := hid hq2
     clear hq1 hq2
     gi_wp2
     refine HRo.out.mono ?_
     clear d0 d1 d2 d3
     rintro e W' (⟨rfl, hI'⟩ | ⟨rfl, hx⟩)
     ·obtain ⟨d0, d1, d2, d3⟩ := HC.out _ _ hI'
      have HI' := hid hI'
      clear hI'
      gi_wp2
      go_roundw
      case rel => exact ⟨j + 1, hltj, by rw [<- HT2.out]; go_num, HI'⟩
      case measure => simp [intOf]; omega
     ·gi_wp2
      refine bodyPost_ret (results_none rfl _ _ _) rfl ?_
      exact ⟨⟨_, rfl⟩, .inr hx⟩
    ·obtain rfl : j = cutN cols (min wd cols) := by omega
     have hce : cutAt cols wd (cutN cols (min wd cols)) = cols := cutAt_end
     have m1 : (if (rows : Int) - r < h then (rows : Int) - r else h) = ((min h (rows - r) : Nat) : Int) := by split <;> omega
     generalize hq1 : min h (rows - r) = q1 at *
     have g1 : r + q1 <= rows := by omega
     have HIj := hIj
     have HS3 := hid s3
     clear hIj hq1 s3
     gi_wp2
     go_roundw
     case rel => exact ⟨i + 1, hlt, by rw [<- HS2.out]; go_num, by rw [Nat.succ_mul]; exact HIj.out⟩
     case measure => have := HS3.out; simp [intOf]; omega
  ·obtain rfl : i = cutN rows (min h rows) := by omega
   have hre : cutAt rows h (cutN rows (min h rows)) = rows := cutAt_end
   have HIi := hid hIi
   clear hIi
   gi_wp2
   go_end0
   exact ⟨⟨_, rfl⟩, .inl HIi.out⟩
end Go.Proofs.YtoppijdedkdjeaaGreat

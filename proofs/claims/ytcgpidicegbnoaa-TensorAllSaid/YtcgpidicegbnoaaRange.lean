/-
  A range over a function whose yields hand over memory: one law for the caller, a contract for the iterator ('IterOk'): what is yielded may be described in the world in which it is yielded.
-/
import Derived.Test.YtcgpidicegbnoaaBase
import Derived.RangeFuncNested
import Derived.RangeFuncBound
import Derived.RangeFuncCalls
import Derived.RangeFuncLeaves
import Derived.Shelf.Abstract
import Derived.Shelf.RegionOpen
import Derived.OwnWalkIn
import Derived.TacticsInMore
import Derived.LoopNIn
import Derived.LoopIn
namespace Go.Proofs.Ytcgpidicegbnoaa
open Go.RowKit Go.Shelf

/-- The blocks of Pr lie as they lay; the streams are as they were; no block has gone. -/
structure Held (Pr : Nat → Prop) (A B : World) : Prop where
  os : B.os = A.os
  tape : B.tape = A.tape
  output : B.output = A.output
  size : A.heap.size ≤ B.heap.size
  block : ∀ k, Pr k → B.heap[k]? = A.heap[k]?

theorem Held.refl (Pr : Nat → Prop) (A : World) : Held Pr A A := ⟨rfl, rfl, rfl, Nat.le_refl _, fun _ _ => rfl⟩
theorem Held.trans {Pr : Nat → Prop} {A B C : World} (h : Held Pr A B) (k : Held Pr B C) : Held Pr A C :=
  ⟨k.os.trans h.os, k.tape.trans h.tape, k.output.trans h.output, Nat.le_trans h.size k.size, fun i hi => (k.block i hi).trans (h.block i hi)⟩
theorem Held.of_below {Pr : Nat → Prop} {A B : World} {n : Nat} (h : Below n A B) (hp : ∀ k, Pr k → k < n) : Held Pr A B := ⟨h.os, h.tape, h.output, h.size, fun k hk => h.block k (hp k hk)⟩
theorem Held.below {Pr : Nat → Prop} {A B : World} {n : Nat} (h : Held Pr A B) (hp : ∀ k, k < n → Pr k) : Below n A B := ⟨h.os, h.tape, h.output, h.size, fun k hk => h.block k (hp k hk)⟩
theorem Held.grown {Pr : Nat → Prop} {A B C : World} {row : Option Nat} (h : Held Pr A B) (hg : B.grownBy C row) (hp : ∀ k, Pr k → k < A.heap.size) (hr : ∀ k, row = some k → ¬ Pr k) : Held Pr A C :=
  h.trans ⟨hg.os, hg.tape, hg.output, hg.size, fun k hk => hg.block k (Nat.lt_of_lt_of_le (hp k hk) h.size) (fun e => hr k e.symm hk)⟩
theorem Held.setCell {Pr : Nat → Prop} {A B : World} (h : Held Pr A B) {p : Addr} (hp : ¬ Pr p.block) (u : Value) : Held Pr A (B.setCell p u) :=
  h.trans ⟨rfl, rfl, rfl, by simp [World.setCell], fun k hk => Below.heap_setCell _ _ _ _ (fun e => hp (e ▸ hk))⟩
theorem Held.alloc {Pr : Nat → Prop} {A B : World} (h : Held Pr A B) (hp : ∀ k, Pr k → k < A.heap.size) (o : Obj) : Held Pr A (B.alloc o) :=
  h.trans ⟨rfl, rfl, rfl, by simp, fun k hk => Below.heap_alloc _ _ _ (Nat.lt_of_lt_of_le (hp k hk) h.size)⟩
theorem Held.drewN {Pr : Nat → Prop} {A B : World} (h : Held Pr A B) (n : Nat) : Held Pr A (B.drewN n) := ⟨h.os, h.tape, h.output, h.size, h.block⟩
theorem Held.cell {Pr : Nat → Prop} {A B : World} (h : Held Pr A B) {p : Addr} (hp : Pr p.block) : B.cell? p = A.cell? p := World.cell?_of_block (w := A) (h.block p.block hp)
theorem Held.mono {Pr Pr' : Nat → Prop} {A B : World} (h : Held Pr A B) (hp : ∀ k, Pr' k → Pr k) : Held Pr' A B := ⟨h.os, h.tape, h.output, h.size, fun k hk => h.block k (hp k hk)⟩

/-- THE ITERATOR's CONTRACT: N rounds; round k is called with what Cx k describes in the world of the call. -/
def IterOk (F : Fence) (n : Nat) (P : Program) (gf : Nat) (lb : Array Value) (N : Nat) (Cx : Nat → Array Value → World → Prop) (Pr : Nat → Prop) (W0 : World) : Prop :=
  ∀ (l : Nat) (I : Nat → World → Prop) (Ix : World → Prop) (W : World), Held Pr W0 W →
    (∀ k A B, I k A → Below A.heap.size A B → I k B) →
    (∀ k A, I k A → Held Pr W A) →
    (∀ k A xs, I k A → k < N → Cx k xs A → YieldAt F (n - 1) P l xs A fun e B => (e = .returned (.bool true) ∧ I (k + 1) B) ∨ (e = .returned (.bool false) ∧ Ix B)) →
    I 0 W →
    CallsIn F n P gf (#[.func (.yield l) #[] #[]] ++ lb) W fun e B => (∃ v, e = .returned v) ∧ (I N B ∨ Ix B)

/-- HOW THE BODY OF A ROUND MAY BE LEFT. -/
def iterPost (Pr : Nat → Prop) (I : World → Prop) (Ix : Code → World → Prop) (W : World) : Exit → Act → World → Prop
  | .normal, _, W' => KeepsOthers W W' ∧ Held Pr W W' ∧ I W'
  | .ret, _, W' => KeepsOthers W W' ∧ Held Pr W W' ∧ Ix .ret W'
  | .exit id, _, W' => KeepsOthers W W' ∧ Held Pr W W' ∧ Ix (.exit id) W'
  | .goto t, _, W' => KeepsOthers W W' ∧ Held Pr W W' ∧ Ix (.goto t) W'
  | .panic _, _, _ => False
  | .outgrown, _, _ => False

variable {F : Fence} {n : Nat} {P : Program}

/-- THE STATEMENT 'for .. := range g { body }'. -/
theorem wpIn_iter {g : Operand} {ps : Array Tmp} {assign body : Code} {Q : Exit → Act → World → Prop} {a : Act} {w : World}
    (hro : F.round = none) (h1 : 1 ≤ n) {gf : Nat} {lb : Array Value} (hg : a.eval g = .func (.func gf) #[] lb) (hFg : F.fn gf) (eg : ∀ args w, (callFunc gf args).run P w = .ok (.enter gf args) w)
    {N : Nat} {Cx : Nat → Array Value → World → Prop} {Pr : Nat → Prop} (hit : IterOk F (n - 1) P gf lb N Cx Pr w) (hPr : ∀ b, Pr b → b < w.heap.size) (hps : ∀ k xs W, Cx k xs W → xs.size = ps.size)
    (I : Nat → World → Prop) (Ix : Code → World → Prop) (hI : Own I) (hIx : ∀ c, Own (fun (_ : Unit) => Ix c)) (h0 : I 0 w)
    (hbody : ∀ (l k : Nat) (xs : Array Value) (W : World), I k W → k < N → Cx k xs W → Held Pr w W →
      assign.wpIn (F.inRound l) (n - 1 - 1) P (Exit.then (fun a₁ w₁ => KeepsOthers W w₁ ∧ Held Pr W w₁ ∧ ∃ J : World → Prop, Own (fun (_ : Unit) => J) ∧ J w₁ ∧
        ∀ W2, J W2 → Held Pr w W2 → body.wpIn (F.inRound l) (n - 1 - 1) P (iterPost Pr (I (k + 1)) Ix W2) a₁ W2) (fun _ _ _ => False))
        { tmps := (ps.zip xs).foldl (fun t (p, v) => t.setIfInBounds p v) a.tmps, defers := [] } W)
    (hdone : ∀ (D : Nat) (W : World), w.heap.size ≤ D → I N W → Held Pr w W → W.heap[D]? = some (.deferred (some [])) → Q .normal { a with defers := { target := .collected D, args := #[] } :: a.defers } W)
    (hstop : ∀ (D : Nat) (c : Code) (W : World), w.heap.size ≤ D → Ix c W → Held Pr w W → W.heap[D]? = some (.deferred (some [])) → c.wpIn F n P Q { a with defers := { target := .collected D, args := #[] } :: a.defers } W) :
    (Code.rangeFunc g ps assign body).wpIn F n P Q a w := by
  refine wpIn_rangeFunc fun fn hfn => ?_
  rw [hro]
  -- the record and the block for deferred calls
  let rec' : LoopState → Option Code → Loop := fun st pe => { state := st, pending := pe, fn, tmps := a.tmps, params := ps, assign, body, defers := w.heap.size }
  let D := w.heap.size
  let l := w.heap.size + 1
  let W1 := (w.alloc (.deferred (some []))).alloc (.loop (rec' .ready none))
  have hL1 : W1.heap[l]? = some (.loop (rec' .ready none)) := by
    have := World.alloc_heap_new (w.alloc (.deferred (some []))) (.loop (rec' .ready none)); rwa [World.size_alloc] at this
  have hD1 : W1.heap[D]? = some (.deferred (some [])) := (Below.heap_alloc _ _ _ (by simp [D])).trans (World.alloc_heap_new w _)
  have hHd : Held Pr w W1 := ((Held.refl _ _).alloc hPr _).alloc hPr _
  have hI1 : I 0 W1 := hI.alloc _ (hI.alloc _ h0)
  refine ⟨l, [{ target := .collected D, args := #[] }], W1, { target := .fn (.func gf) lb, args := #[.func (.yield l) #[] #[]] }, W1, gf, #[.func (.yield l) #[] #[]] ++ lb, W1,
    run_enterLoop_outer _ _ _ _ _, ?_, ?_, ?_, fun _ => h1, ?_⟩
  · simp only [resolve, hg]
    simp [go_sem]
  · intro f' hf'; simp [Target.leads] at hf'; subst hf'; exact hFg
  · simp [invoke, go_sem, eg]
  have put : ∀ (W : World) (o o' : Obj), w.heap.size + 1 ≤ W.heap.size → W.heap[l]? = some o → Held Pr W (W.putObj l o') := fun W o o' _ _ =>
    ⟨rfl, rfl, rfl, by simp, fun k hk => World.putObj_heap_other (fun e => by have := hPr k hk; simp only [l] at e; omega)⟩
  refine (hit l (fun k A => I k A ∧ A.heap[l]? = some (.loop (rec' .ready none)) ∧ A.heap[D]? = some (.deferred (some [])) ∧ Held Pr W1 A)
    (fun A => ∃ c, Ix c A ∧ A.heap[l]? = some (.loop (rec' .done (some c))) ∧ A.heap[D]? = some (.deferred (some [])) ∧ Held Pr W1 A) W1 hHd ?_ (fun k A h => h.2.2.2) ?_ ⟨hI1, hL1, hD1, Held.refl _ _⟩).mono ?_
  · rintro k A B ⟨hi, hl, hd, hh⟩ hb
    have hlt : l < A.heap.size := (Array.getElem?_eq_some_iff.1 hl).1
    have hg' : A.grownBy B none := ⟨hb.os, hb.tape, hb.output, hb.size, fun k hk _ => hb.block k hk⟩
    exact ⟨hI _ _ _ none hi hg' (fun r e => by cases e), (hb.block l hlt).trans hl, (hb.block D (by simp only [D]; simp only [l] at hlt; omega)).trans hd,
      hh.trans (Held.of_below hb (fun k hk => by have := hPr k hk; have := hh.size; have := hHd.size; omega))⟩
  · rintro k W xs ⟨hi, hl, hd, hh⟩ hk hcx
    have hlt : l < W.heap.size := (Array.getElem?_eq_some_iff.1 hl).1
    have hww : Held Pr w W := hHd.trans hh
    have hy := run_yield (P := P) (args := xs) hl (hps k xs W hcx)
    refine ⟨fn, _, assign, body, hy, roundIn_of_wpIn hfn (wpIn_mono (hbody l k xs W hi hk hcx hww) ?_)⟩
    intro e a₁ w₁ hp
    cases e with
    | normal =>
      obtain ⟨hkw, hqw, J, hJ, hj, hb⟩ := hp
      have hl := hkw.same _ _ hl rfl
      have hd := hkw.same _ _ hd rfl
      have hlt : l < w₁.heap.size := (Array.getElem?_eq_some_iff.1 hl).1
      have hww := hww.trans hqw
      have hh := hh.trans hqw
      refine ⟨_, run_beginRound hl rfl, ?_⟩
      have hl2 : (w₁.putObj l (.loop { rec' .ready none with state := .busy })).heap[l]? = some (.loop { rec' .ready none with state := .busy }) := World.putObj_heap_same hlt
      have hd2 : (w₁.putObj l (.loop { rec' .ready none with state := .busy })).heap[D]? = some (.deferred (some [])) := (World.putObj_heap_other (by simp only [D, l]; omega)).trans hd
      have hh2 : Held Pr w₁ (w₁.putObj l (.loop { rec' .ready none with state := .busy })) := put _ _ _ (by simp only [l] at hlt; omega) hl
      refine wpIn_mono (hb _ (hJ.putObj (s := ()) _ hj hl rfl) (hww.trans hh2)) ?_
      have fin : ∀ (jump : Option Code) (W3 : World), KeepsOthers (w₁.putObj l (.loop { rec' .ready none with state := .busy })) W3 →
          (Instr.endRound l jump).run P W3 = .ok (.bool jump.isNone) (W3.putObj l (.loop (rec' (if jump.isNone then .ready else .done) jump))) ∧
          W3.heap[l]? = some (.loop { rec' .ready none with state := .busy }) ∧ W3.heap[D]? = some (.deferred (some [])) ∧
          (W3.putObj l (.loop (rec' (if jump.isNone then .ready else .done) jump))).heap[l]? = some (.loop (rec' (if jump.isNone then .ready else .done) jump)) ∧
          (W3.putObj l (.loop (rec' (if jump.isNone then .ready else .done) jump))).heap[D]? = some (.deferred (some [])) := fun jump W3 hk3 => by
        have hl3 := hk3.same _ _ hl2 rfl
        have hd3 := hk3.same _ _ hd2 rfl
        exact ⟨run_endRound (P := P) jump hl3, hl3, hd3, World.putObj_heap_same (Array.getElem?_eq_some_iff.1 hl3).1, (World.putObj_heap_other (by simp only [D, l]; omega)).trans hd3⟩
      intro e a3 W3 hp
      cases e with
      | normal =>
        obtain ⟨hk3, hq3, hi3⟩ := hp
        obtain ⟨hr, hl3, hd3, hl4, hd4⟩ := fin none W3 hk3
        exact ⟨_, _, hr, .inl ⟨rfl, hI.putObj _ hi3 hl3 rfl, hl4, hd4, ((hh.trans hh2).trans hq3).trans (put _ _ _ (by have := (Array.getElem?_eq_some_iff.1 hl3).1; simp only [l] at this; omega) hl3)⟩⟩
      | ret =>
        obtain ⟨hk3, hq3, hi3⟩ := hp
        obtain ⟨hr, hl3, hd3, hl4, hd4⟩ := fin (some .ret) W3 hk3
        exact ⟨_, _, hr, .inr ⟨rfl, .ret, (hIx _).putObj (s := ()) _ hi3 hl3 rfl, hl4, hd4, ((hh.trans hh2).trans hq3).trans (put _ _ _ (by have := (Array.getElem?_eq_some_iff.1 hl3).1; simp only [l] at this; omega) hl3)⟩⟩
      | exit id =>
        obtain ⟨hk3, hq3, hi3⟩ := hp
        obtain ⟨hr, hl3, hd3, hl4, hd4⟩ := fin (some (.exit id)) W3 hk3
        exact ⟨_, _, hr, .inr ⟨rfl, .exit id, (hIx _).putObj (s := ()) _ hi3 hl3 rfl, hl4, hd4, ((hh.trans hh2).trans hq3).trans (put _ _ _ (by have := (Array.getElem?_eq_some_iff.1 hl3).1; simp only [l] at this; omega) hl3)⟩⟩
      | goto t =>
        obtain ⟨hk3, hq3, hi3⟩ := hp
        obtain ⟨hr, hl3, hd3, hl4, hd4⟩ := fin (some (.goto t)) W3 hk3
        exact ⟨_, _, hr, .inr ⟨rfl, .goto t, (hIx _).putObj (s := ()) _ hi3 hl3 rfl, hl4, hd4, ((hh.trans hh2).trans hq3).trans (put _ _ _ (by have := (Array.getElem?_eq_some_iff.1 hl3).1; simp only [l] at this; omega) hl3)⟩⟩
      | panic ch => exact hp.elim
      | outgrown => exact hp.elim
    | exit id => exact hp.elim
    | goto t => exact hp.elim
    | ret => exact hp.elim
    | panic ch => exact hp.elim
    | outgrown => exact hp.elim
  · rintro e W2 ⟨⟨v, rfl⟩, (⟨hi, hl, hd, hh⟩ | ⟨c, hi, hl, hd, hh⟩)⟩
    · refine ⟨none, _, run_endLoop (P := P) hl (by simp [rec']), ?_⟩
      exact hdone D _ (Nat.le_refl _) (hI.putObj _ hi hl rfl) ((hHd.trans hh).trans (put _ _ _ (by have := (Array.getElem?_eq_some_iff.1 hl).1; simp only [l] at this; omega) hl)) ((World.putObj_heap_other (by simp only [D, l]; omega)).trans hd)
    · refine ⟨some c, _, run_endLoop (P := P) hl (by simp [rec']), ?_⟩
      exact hstop D c _ (Nat.le_refl _) ((hIx c).putObj (s := ()) _ hi hl rfl) ((hHd.trans hh).trans (put _ _ _ (by have := (Array.getElem?_eq_some_iff.1 hl).1; simp only [l] at this; omega) hl)) ((World.putObj_heap_other (by simp only [D, l]; omega)).trans hd)

end Go.Proofs.Ytcgpidicegbnoaa

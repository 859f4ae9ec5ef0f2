/-
  A region that draws its order and ends in one writing operation, in the body of a round of a range over a function: its head only reads.
-/
import Derived.Test.YtcgpidicegbnoaaRoundQ
import Derived.StillTailTactics
namespace Go.Proofs.Ytcgpidicegbnoaa
open Go.RowKit Go.Shelf

/-- Only the plain end. -/
def onlyNormal (Q : Exit → Act → World → Prop) : Exit → Act → World → Prop := fun e a w => e = .normal ∧ Q e a w

theorem onlyNormal_out {Q : Exit → Act → World → Prop} : ¬ LetsOut (onlyNormal Q) := fun ⟨_, _, h, _⟩ => by cases h

theorem oper_wpIn_of_wp {P : Program} {o : Oper} {a : Act} {w : World} {K : Act → World → Prop} {Q : Exit → Act → World → Prop} (l n : Nat) (hd : ∀ c, o.op ≠ .defer c) (h : o.wp P a w K (onlyNormal Q)) :
    o.wpIn (Fence.wide.inRound l) n P a w K (onlyNormal Q) := by
  unfold Oper.wpIn
  refine ⟨fun _ _ => trivial, ?_⟩
  unfold Oper.wp at h
  rw [Oper.semAt_plain (Fence.wide.inRound l) _ _ hd]
  generalize (execOp a.eval o).run P w = r at *
  cases r with
  | ok x w' =>
    cases x with
    | value v => exact h
    | skip => exact h
    | defer d => exact h
    | enter f args => exact ⟨fun hh => (by cases hh), (callsIn_wide (n := n - 1)).2 h⟩
    | row row args =>
      refine ⟨fun hh => (by cases hh), fun c cs _ => ?_⟩
      obtain ⟨v, w'', r, s⟩ := h c cs
      exact ⟨v, w'', r, stepsIn_wide.2 s⟩
    | _ => exact False.elim h
  | halt x w' =>
    cases x <;> first | exact h | exact False.elim h

theorem oper_wpIn_drop {F : Fence} {n : Nat} {P : Program} {o : Oper} {a : Act} {w : World} {K : Act → World → Prop} {Q : Exit → Act → World → Prop} (h : o.wpIn F n P a w K (onlyNormal Q)) : o.wpIn F n P a w K Q := by
  unfold Oper.wpIn at h ⊢
  refine ⟨h.1, ?_⟩
  have h5 := h.2
  generalize (o.semAt F.round a.eval).run P w = r at *
  cases r with
  | ok x w' =>
    cases x with
    | enter f args =>
      exact ⟨h5.1, CallsIn.mono h5.2 (fun e w'' he => by
        cases e with
        | returned v => exact he
        | panicked c => cases he.1
        | outgrown => exact absurd he onlyNormal_out)⟩
    | round l' f tmps asg bd =>
      exact ⟨h5.1, RoundIn.mono h5.2 (fun e w'' he => by
        cases e with
        | returned v => exact he
        | panicked c => cases he.1
        | outgrown => exact absurd he onlyNormal_out)⟩
    | _ => exact h5
  | halt x w' =>
    cases x with
    | panic v => cases h5.1
    | _ => exact h5

theorem wpAnyIn_of_any {P : Program} {md : Region.Mode} {ops : List Oper} {Q : Exit → Act → World → Prop} (l n : Nat) (hd : noDefer ops = true) : ∀ (fuel : Nat) (listed : Array Bool) (a : Act) (w : World),
    wpAny P md ops.toArray (onlyNormal Q) fuel listed a w → wpAnyIn (Fence.wide.inRound l) n P md ops.toArray Q fuel listed a w
  | 0, _, _, _, h => ⟨h.1, h.2.2⟩
  | fuel + 1, _, _, _, h => by
    refine ⟨fun h0 => (h.1 h0).2, fun i hi => ?_⟩
    have h1 := h.2 i hi
    unfold wpOp at h1
    unfold wpOpIn
    split
    · rename_i ho; simp only [ho] at h1; exact wpAnyIn_of_any l n hd fuel _ _ _ h1
    · rename_i o ho
      simp only [ho] at h1
      split
      · rename_i hw
        simp only [hw, if_true] at h1
        have h2 := h1.resolve_right (fun hx => onlyNormal_out hx.2)
        have h3 := oper_wpIn_of_wp l n (noDefer_at hd ho) h2
        have h4 := oper_wpIn_drop h3
        exact Oper.wpIn_mono (fun a w => wpAnyIn_of_any l n hd fuel _ a w) h4
      · rename_i hw
        simp only [hw] at h1
        exact ⟨fun _ _ => trivial, wpAnyIn_of_any l n hd fuel _ _ _ h1⟩

theorem wpIn_region_still_tail_round {id : Nat} {P : Program} {Q : Exit → Act → World → Prop} {a : Act} {w : World} {ops : List Oper} {l m : Nat} (n : Nat) (hm : P.follows .mixedOrders = true) (hB : Region.lexTailB .any ops.toArray n = true) (hd : noDefer ops = true)
    (h : wpStill P ops.toArray w.drew (fun a2 => wpList P ops.toArray (onlyNormal Q) (ops.drop n) a2 w.drew) (ops.take n) a) : (Code.region id ops.toArray true).wpIn (Fence.wide.inRound l) m P Q a w := by
  simp only [Region.lexTailB, Bool.and_eq_true, decide_eq_true_eq] at hB
  obtain ⟨⟨⟨⟨hsel, hn⟩, hs⟩, hc⟩, hlex⟩ := hB
  have hn' : n < ops.length := by simpa using hn
  have htl : (ops.take n).length = n := by simp; omega
  have hdl : (ops.drop n).length = ops.toArray.size - n := by simp
  have inv0 : HeadInv .any ops.toArray n (Array.replicate ops.toArray.size false) :=
    ⟨by simp, fun j oj _ hl => (by rw [getD_replicate_false] at hl; cases hl), fun t _ ht => getD_in (by simpa using ht) (getD_replicate_false _ _)⟩
  have H := wpAnyL_lex (md := .any) (g := ops.toArray.size - n) hsel hs hc hn (ops.take n) 0 _ a (fun j hj => by
    have hj' : j < n := by rw [htl] at hj; exact hj
    simp [hj']) (by simpa using htl) inv0 (by rw [htl]; exact hlex) h
  refine wpIn_region_any hm (wpAnyIn_of_any l m hd _ _ _ _ ?_)
  have := wpAny_of_head (Q' := onlyNormal Q) (g := ops.toArray.size - n) (fun listed a' hL => by
    have := wpAny_of_seq (md := .any) (Q' := onlyNormal Q) (ops.drop n) n listed a' { w with drawn := w.drawn + 1 } (fun j => by simp [List.getElem?_drop]) (by rw [hdl]; exact hL.1) hL.2
    rwa [hdl] at this) _ _ _ H
  rw [htl, show n + (ops.toArray.size - n) = ops.toArray.size by omega] at this
  exact this

end Go.Proofs.Ytcgpidicegbnoaa

/-
  A region that draws its order and only reads, in the body of a round of a range over a function.
-/
import Derived.Test.YtcgpidicegbnoaaRange
import Derived.Sort.QuietTacIn
namespace Go.Proofs.Ytcgpidicegbnoaa
open Go.RowKit Go.Shelf

/-- No operation of the region defers. -/
def noDefer (ops : List Oper) : Bool := ops.all fun o => match o.op with | .defer _ => false | _ => true

theorem noDefer_at {ops : List Oper} (h : noDefer ops = true) {i : Nat} {o : Oper} (hi : ops.toArray[i]? = some o) : ∀ c, o.op ≠ .defer c := by
  intro c hc
  have hm : o ∈ ops := by simpa using List.mem_of_getElem? (l := ops) (by simpa using hi)
  have := List.all_eq_true.1 h o hm
  rw [hc] at this
  cases this

theorem wpOpIn_round {F : Fence} {n : Nat} {P : Program} {ops : List Oper} {Q : Exit → Act → World → Prop} (l : Nat) (hd : noDefer ops = true) {i : Nat} {K : Act → World → Prop} {a : Act} {w : World}
    (h : wpOpIn F n P ops.toArray Q i K a w) : wpOpIn (F.inRound l) n P ops.toArray Q i K a w := by
  unfold wpOpIn at *
  split
  · rename_i ho; simp only [ho] at h; exact h
  · rename_i o ho
    simp only [ho] at h
    split
    · rename_i hw
      simp only [hw, if_true] at h
      unfold Oper.wpIn at *
      refine ⟨h.1, ?_⟩
      have h := h.2
      rw [Oper.semAt_plain F _ _ (noDefer_at hd ho)] at h
      rw [Oper.semAt_plain (F.inRound l) _ _ (noDefer_at hd ho)]
      exact h
    · rename_i hw; simp only [hw] at h; exact h

theorem wpAnyIn_round {F : Fence} {n : Nat} {P : Program} {md : Region.Mode} {ops : List Oper} {Q : Exit → Act → World → Prop} (l : Nat) (hd : noDefer ops = true) : ∀ (fuel : Nat) (listed : Array Bool) (a : Act) (w : World),
    wpAnyIn F n P md ops.toArray Q fuel listed a w → wpAnyIn (F.inRound l) n P md ops.toArray Q fuel listed a w
  | 0, _, _, _, h => h
  | fuel + 1, _, _, _, h => ⟨h.1, fun i hi => wpOpIn_round l hd (wpOpIn_mono (fun a w => wpAnyIn_round l hd fuel _ a w) (h.2 i hi))⟩

theorem wpIn_region_quiet_round {F : Fence} {n : Nat} {P : Program} {id : Nat} {Q : Exit → Act → World → Prop} {a : Act} {w : World} {ops : List Oper} {l : Nat} (hro : F.round = none) (hm : P.follows .mixedOrders = true) (hB : Region.lexB .any ops.toArray = true) (hd : noDefer ops = true)
    (h : wpQuietIn F n P ops.toArray (fun w' => ∃ n, w' = w.drewN n) (fun a' => ∀ w', (∃ n, w' = w.drewN n) → Q .normal a' w') ops a) : (Code.region id ops.toArray true).wpIn (F.inRound l) n P Q a w := by
  simp only [Region.lexB, Bool.and_eq_true] at hB
  refine wpIn_region_any hm (wpAnyIn_round l hd _ _ _ _ (wpAnyIn_of_quiet (C := fun w' => ∃ n, w' = w.drewN n) (Q := fun a' => ∀ w', (∃ n, w' = w.drewN n) → Q .normal a' w') hro (fun _ w' hw' h => h w' hw') _ _ _ _ ⟨1, rfl⟩ ?_))
  have := wpAnyQIn_lex (F := F) (n := n) (C := fun w' => ∃ n, w' = w.drewN n) (md := .any) hB.1 ops.toArray.toList 0 (Array.replicate ops.toArray.size false) a (by simp) (by simpa using hB.2) (by simpa using h)
  simpa using this

end Go.Proofs.Ytcgpidicegbnoaa

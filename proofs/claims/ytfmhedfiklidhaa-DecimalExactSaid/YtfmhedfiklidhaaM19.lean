/-
  Contracts of the functions that the statements reach, in the order in which they are built: SlotsC.
-/
import Derived.Test.YtfmhedfiklidhaaM4
set_option linter.unusedVariables false
set_option linter.unusedSimpArgs false
set_option linter.constructorNameAsVariable false
set_option linter.deprecated false

/-
  A region that draws its order, slot by slot, with one invariant over what is done, the slots' values and the world: each operation is shown once. No program in sight.
-/
namespace Go.Proofs.Ytfmhedfiklidhaa
open Go.RowKit

section
variable {P : Program} {Q : Exit → Act → World → Prop}

def mark (d : Nat → Bool) (i : Nat) : Nat → Bool := fun j => if j = i then true else d j
/-- What operation i waits for is done. -/
def Waits (d : Nat → Bool) : List Edge → Prop
  | [] => True
  | e :: es => (Region.binds .any e = true → d e.on = true) ∧ Waits d es
theorem Waits.of {d : Nat → Bool} : ∀ (es : List Edge), (∀ e ∈ es, Region.binds .any e = true → d e.on = true) → Waits d es := by
  intro es
  induction es with
  | nil => intro _; trivial
  | cons e es ih => intro h; exact ⟨h e List.mem_cons_self, ih (fun x hx => h x (List.mem_cons_of_mem _ hx))⟩
/-- What each operation must show. -/
def ShowsJ (P : Program) (ops : Array Oper) (Q : Exit → Act → World → Prop) (a0 : Act) (fl : List Oper) (J : (Nat → Bool) → (Nat → Value) → World → Prop) : List Oper → Nat → Prop
  | [], _ => True
  | o :: l, i => (∀ d g w, J d g w → d i = false → Waits d o.after.toList → wpList P ops (Exit.then (fun a' w' => ∃ v, a' = (fillFrom fl 0 g a0).put o.dst v ∧ J (mark d i) (upd g i v) w') Q) [o] (fillFrom fl 0 g a0) w) ∧ ShowsJ P ops Q a0 fl J l (i + 1)
theorem ShowsJ.at {ops : Array Oper} {a0 : Act} {fl : List Oper} {J : (Nat → Bool) → (Nat → Value) → World → Prop} : ∀ (l : List Oper) (k : Nat), ShowsJ P ops Q a0 fl J l k → ∀ i o, l[i]? = some o →
    ∀ d g w, J d g w → d (k + i) = false → Waits d o.after.toList → wpList P ops (Exit.then (fun a' w' => ∃ v, a' = (fillFrom fl 0 g a0).put o.dst v ∧ J (mark d (k + i)) (upd g (k + i) v) w') Q) [o] (fillFrom fl 0 g a0) w := by
  intro l
  induction l with
  | nil => intro k _ i o h; simp at h
  | cons p l ih =>
    intro k h i o ho
    cases i with
    | zero => simp at ho; subst ho; exact h.1
    | succ i =>
      have := ih (k + 1) h.2 i o (by simpa using ho)
      rw [show k + (i + 1) = k + 1 + i by omega]
      exact this

/-- THE LAW: the first n in whatever order, each shown once; the rest behind them all, in the order of the text. -/
theorem wp_region_slots_gen {l : List Oper} (n : Nat) {id : Nat} {a : Act} {w : World} (hm : P.follows .mixedOrders = true) (hap : aparts (l.take n) = true) (hbk : backs l 0 = true) (hus : ((List.range (l.length - n)).all fun j => usedUpto l.toArray (n + j)) = true) (hn : n < l.length) (J : (Nat → Bool) → (Nat → Value) → World → Prop)
    (h0 : ∀ g, J (fun _ => false) g w.drew) (hshow : ∀ ops, ShowsJ P ops Q a (l.take n) J (l.take n) 0)
    (hlast : ∀ ops (d : Nat → Bool) (g : Nat → Value) (w' : World), (∀ i, i < n → d i = true) → J d g w' → wpList P ops Q (l.drop n) (fillFrom (l.take n) 0 g a) w') : (Code.region id l.toArray true).wp P Q a w := by
  have hsz : l.toArray.size = l.length := by simp
  have htl : (l.take n).length = n := by rw [List.length_take]; omega
  have hup : ∀ t, n ≤ t → t < l.length → usedUpto l.toArray t = true := by
    intro t h1 h2
    have := List.all_eq_true.1 hus (t - n) (List.mem_range.2 (by omega))
    rw [show n + (t - n) = t by omega] at this
    exact this
  refine wp_region_inv hm (fun listed a' w' => listed.size = l.length ∧ (∀ i o, l.toArray[i]? = some o → listed.getD i false = true → ∀ e ∈ o.after, Region.binds .any e = true → listed.getD e.on false = true) ∧
    (((∀ i, n ≤ i → listed.getD i false = false) ∧ ∃ g, a' = fillFrom (l.take n) 0 g a ∧ J (fun i => listed.getD i false) g w') ∨
     (∃ m, n < m ∧ m ≤ l.length ∧ (∀ i, i < m → listed.getD i false = true) ∧ (∀ i, m ≤ i → listed.getD i false = false) ∧ wpList P l.toArray Q (l.drop m) a' w'))) ?_ ?_ ?_
  · have hrep : ∀ i, (Array.replicate l.toArray.size false).getD i false = false := by
      intro i
      simp only [Array.getD_eq_getD_getElem?, Array.getElem?_replicate]
      split <;> rfl
    refine ⟨by simp, ?_, .inl ⟨fun i _ => hrep i, slotsOf (l.take n) a, (fillFrom_self _ _ _ (fun i _ => by rw [Nat.zero_add])).symm, ?_⟩⟩
    · intro i o _ hi; rw [hrep] at hi; cases hi
    · rw [show (fun i => (Array.replicate l.toArray.size false).getD i false) = fun _ => false from funext hrep]; exact h0 _
  · rintro listed a' w' ⟨hs, hc, ⟨hl, _⟩ | ⟨m, h1, h2, _, h4, hq⟩⟩ hr
    · have := all_listed (by rw [hs, hsz]) hbk hr n (by rw [hsz]; exact hn)
      rw [hl n (Nat.le_refl _)] at this
      cases this
    · have hml : m = l.length := by
        rcases Nat.lt_or_ge m l.length with h | h
        · have := all_listed (by rw [hs, hsz]) hbk hr m (by rw [hsz]; exact h)
          rw [h4 m (Nat.le_refl _)] at this
          cases this
        · omega
      rw [hml, List.drop_length] at hq
      exact hq
  · rintro listed a' w' i ⟨hs, hc, hI⟩ hi
    obtain ⟨hu, o, ho, hdep⟩ := mem_ready.1 hi
    have hlt : i < l.length := by have := (Array.getElem?_eq_some_iff.1 ho).1; rw [hsz] at this; exact this
    have hset : (listed.setIfInBounds i true).getD i false = true := by simp [Array.getD_eq_getD_getElem?, Array.getElem?_setIfInBounds, hs, hlt]
    have hclo : ∀ k o', l.toArray[k]? = some o' → (listed.setIfInBounds i true).getD k false = true → ∀ e ∈ o'.after, Region.binds .any e = true → (listed.setIfInBounds i true).getD e.on false = true := by
      have hupl : ∀ j, listed.getD j false = true → (listed.setIfInBounds i true).getD j false = true := by
        intro j hj
        by_cases hij : i = j
        · subst hij; exact hset
        · rw [getD_set_ne _ hij]; exact hj
      intro k o' ho' hk e he hb
      by_cases hik : i = k
      · subst hik
        rw [ho] at ho'
        cases ho'
        exact hupl _ (hdep e he hb)
      · rw [getD_set_ne _ hik] at hk
        exact hupl _ (hc k o' ho' hk e he hb)
    rcases hI with ⟨hl, g, rfl, hJ⟩ | ⟨m, h1, h2, h3, h4, hq⟩
    · by_cases hil : n ≤ i
      · have hA := upto_ready (by rw [hsz]; exact hlt) (hup i hil hlt) hc hi
        have hin : i = n := by
          rcases Nat.lt_or_ge n i with h | h
          · have := hA n h
            rw [hl n (Nat.le_refl _)] at this
            cases this
          · omega
        subst hin
        have hs1 := hlast l.toArray _ g w' hA hJ
        have ho' : l[i]? = some o := by simpa using ho
        have hd : l.drop i = o :: l.drop (i + 1) := by
          have hx : l[i] = o := by rw [List.getElem?_eq_getElem hlt] at ho'; exact Option.some.inj ho'
          rw [List.drop_eq_getElem_cons hlt, hx]
        rw [hd] at hs1
        refine wpOp_mono ?_ (wpOp_of_cons ho hs1)
        intro a2 w2 hq
        refine ⟨by simp [hs], hclo, .inr ⟨i + 1, by omega, by omega, fun j hj => ?_, fun j hj => ?_, hq⟩⟩
        · by_cases hij : i = j
          · subst hij; exact hset
          · rw [getD_set_ne _ hij]; exact hA j (by omega)
        · rw [getD_set_ne _ (by omega)]; exact hl j (by omega)
      · have hil' : i < n := by omega
        have ho' : (l.take n)[i]? = some o := by
          rw [List.getElem?_take, if_pos hil']; simpa using ho
        have hu0 : listed.getD i false = false := by
          rw [Array.getD_eq_getD_getElem?] at hu ⊢
          cases hx : listed[i]? with
          | none => rfl
          | some b => rw [hx] at hu; simpa using hu
        have hs1 := (hshow l.toArray).at _ _ i o ho' _ g w' hJ (by rw [Nat.zero_add]; exact hu0) (Waits.of _ fun e he hb => hdep e (by simpa using he) hb)
        rw [Nat.zero_add] at hs1
        refine wpOp_mono ?_ (wpOp_of_list ho hs1)
        rintro a2 w2 ⟨v, rfl, hJ2⟩
        refine ⟨by simp [hs], hclo, .inl ⟨fun j hj => by rw [getD_set_ne _ (by omega)]; exact hl j hj, upd g i v, ?_, ?_⟩⟩
        · have := fillFrom_upd (g := g) (v := v) (l.take n) 0 i a hap (by rw [htl]; exact hil')
          rw [Nat.zero_add] at this
          rw [← this]
          simp only [ho', Option.bind_some]
        · have e : (fun j => (listed.setIfInBounds i true).getD j false) = mark (fun j => listed.getD j false) i := by
            funext j
            unfold mark
            by_cases hij : j = i
            · subst hij; rw [if_pos rfl]; exact hset
            · rw [if_neg hij, getD_set_ne _ (Ne.symm hij)]
          rw [e]; exact hJ2
    · have hmi : m ≤ i := by
        rcases Nat.lt_or_ge i m with h | h
        · have h5 := h3 i h
          rw [Array.getD_eq_getD_getElem?] at h5 hu
          cases hx : listed[i]? with
          | none => rw [hx] at h5; cases h5
          | some b => rw [hx] at h5 hu; simp at h5 hu; rw [h5] at hu; cases hu
        · exact h
      have hA := upto_ready (by rw [hsz]; exact hlt) (hup i (by omega) hlt) hc hi
      have him : i = m := by
        rcases Nat.lt_or_ge m i with h | h
        · have := hA m h
          rw [h4 m (Nat.le_refl _)] at this
          cases this
        · omega
      subst him
      have ho' : l[i]? = some o := by simpa using ho
      have hd : l.drop i = o :: l.drop (i + 1) := by
        have hx : l[i] = o := by rw [List.getElem?_eq_getElem hlt] at ho'; exact Option.some.inj ho'
        rw [List.drop_eq_getElem_cons hlt, hx]
      rw [hd] at hq
      refine wpOp_mono ?_ (wpOp_of_cons ho hq)
      intro a2 w2 hq
      refine ⟨by simp [hs], hclo, .inr ⟨i + 1, by omega, by omega, fun j hj => ?_, fun j hj => ?_, hq⟩⟩
      · by_cases hij : i = j
        · subst hij; exact hset
        · rw [getD_set_ne _ hij]; exact h3 j (by omega)
      · rw [getD_set_ne _ (by omega)]; exact h4 j (by omega)
end


end Go.Proofs.Ytfmhedfiklidhaa

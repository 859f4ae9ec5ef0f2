/-
  Contracts of the functions that the statement reaches: RatQ, RatR, LitB, SlotsD, ModB.
-/
import Derived.Test.YtoppijdedkdjeaaGreatF14
import Derived.Test.YtoppijdedkdjeaaGreatF10
set_option linter.unusedVariables false
set_option linter.unusedSimpArgs false
set_option linter.constructorNameAsVariable false
set_option linter.deprecated false
set_option maxRecDepth 100000
set_option maxHeartbeats 3200000
namespace Go.Proofs.YtoppijdedkdjeaaGreat
open Go.Lib (hid)
def ratOf (x : RatL) : Rat := mkRat (sgn x.neg (lval x.num)) (underN x.den)
def ratL (q : Rat) : RatL := ⟨decide (q.num < 0), limbs q.num.natAbs, if q.den = 1 then [] else limbs q.den⟩
theorem sgn_natAbs (neg : Bool) (n : Nat) : (sgn neg n).natAbs = n := by cases neg <;> simp [sgn]
theorem quotN_ratL (neg : Bool) (n : Nat) {d : Nat} (hd : 0 < d) : quotN neg n d = ratL (mkRat (sgn neg n) d) := by
 have hg : 0 < Nat.gcd n d := Nat.gcd_pos_of_pos_right _ hd
 obtain ⟨k, hk⟩ := Nat.gcd_dvd_left n d
 rw [Rat.mkRat_def, dif_neg (by omega), Rat.normalize_eq]
 unfold quotN ratL
 simp only [sgn_natAbs]
 have e : sgn neg n / ((Nat.gcd n d : Nat) : Int) = sgn neg (n / Nat.gcd n d) := by
  generalize Nat.gcd n d = g at *
  subst hk
  rw [Nat.mul_div_cancel_left _ hg]
  cases neg
  ·simp only [sgn]; simp; rw [Int.mul_ediv_cancel_left _ (by omega)]
  ·simp only [sgn]; simp; rw [<- Int.mul_neg, Int.mul_ediv_cancel_left _ (by omega)]
 rw [e, sgn_natAbs]
 congr 1
 have h0 : n = 0 ↔ n / Nat.gcd n d = 0 := by
  constructor
  ·rintro rfl; simp
  ·intro h
   generalize Nat.gcd n d = g at *
   subst hk
   rw [Nat.mul_div_cancel_left _ hg] at h
   rw [h, Nat.mul_zero]
 generalize n / Nat.gcd n d = q at *
 by_cases hn : n = 0
 ·rw [h0.1 hn]; cases neg <;> simp [sgn, hn]
 ·have hq : q ≠ 0 := fun h => hn (h0.2 h)
  cases neg
  ·simp [sgn]
  ·simp [sgn, hn]; omega
theorem canonL_ratL (x : RatL) : canonL x = ratL (ratOf x) := quotN_ratL _ _ (underN_pos _)
theorem underN_ratL (q : Rat) : underN (ratL q).den = q.den := by
 unfold ratL underN
 dsimp only
 have := q.den_nz
 by_cases h : q.den = 1
 ·rw [if_pos h, lval_nil, if_pos rfl, h]
 ·rw [if_neg h, lval_limbs, if_neg this]
theorem sgn_ratL (q : Rat) : sgn (ratL q).neg (lval (ratL q).num) = q.num := by
 unfold ratL sgn
 dsimp only
 rw [lval_limbs]
 by_cases h : q.num < 0
 ·rw [decide_eq_true h]; simp; omega
 ·rw [decide_eq_false h]; simp; omega
theorem ratOf_ratL (q : Rat) : ratOf (ratL q) = q := by
 unfold ratOf; rw [underN_ratL, sgn_ratL, Rat.mkRat_self]
theorem sgn_mul (a b : Bool) (n m : Nat) : sgn (a != b) (n * m) = sgn a n * sgn b m := by
 cases a <;> cases b <;> simp [sgn, Int.neg_mul, Int.mul_neg]
theorem mulQ (a b : Bool) (n m d e : Nat) : mkRat (sgn (a != b) (n * m)) (d * e) = mkRat (sgn a n) d * mkRat (sgn b m) e := by
 rw [sgn_mul, Rat.mkRat_mul_mkRat]
theorem addQ (a b : Bool) (n m : Nat) {d e : Nat} (hd : 0 < d) (he : 0 < e) : mkRat (sgn a (n * e) + sgn b (m * d)) (d * e) = mkRat (sgn a n) d + mkRat (sgn b m) e := by
 rw [Rat.mkRat_add_mkRat _ _ (by omega) (by omega)]
 congr 1
 cases a <;> cases b <;> simp [sgn, Int.neg_mul]
theorem inv_mkRat' (b : Bool) (m e : Nat) : (mkRat (sgn b m) e)⁻¹ = mkRat (sgn b e) m := by
 rw [Rat.mkRat_eq_div, Rat.mkRat_eq_div, Rat.div_def, Rat.div_def, Rat.inv_mul_rev, Rat.inv_inv]
 cases b
 ·rfl
 ·have h : (-((m : Int) : Rat))⁻¹ = -((m : Int) : Rat)⁻¹ := by grind
  simp only [sgn, if_true, Rat.intCast_neg, h, Rat.mul_neg, Rat.neg_mul]
  rfl
theorem divQ (a b : Bool) (n m d e : Nat) : mkRat (sgn (a != b) (n * e)) (d * m) = mkRat (sgn a n) d / mkRat (sgn b m) e := by
 rw [Rat.div_def, inv_mkRat' b m e, sgn_mul, Rat.mkRat_mul_mkRat]
theorem sgn_not (a : Bool) (n : Nat) : sgn (!a) n = -sgn a n := by cases a <;> simp [sgn]
theorem negQ (a : Bool) (n d : Nat) : mkRat (sgn (!a) n) d = -mkRat (sgn a n) d := by rw [sgn_not, Rat.neg_mkRat]
theorem mkRat_pos_iff {z : Int} {d : Nat} (hd : 0 < d) : 0 < mkRat z d ↔ 0 < z := by
 rw [Rat.mkRat_eq_div]
 have h : (0 : Rat) < (d : Rat) := by exact_mod_cast hd
 rw [Rat.lt_div_iff h, Rat.zero_mul]
 exact Rat.intCast_lt_intCast (a := 0)
structure RatLe (x : RatL) (k : Nat) : Prop where
 num : x.num.length <= k
 den : x.den.length <= k
structure QLe (q : Rat) (k : Nat) : Prop where
 num : q.num.natAbs < 4294967296 ^ k
 den : q.den < 4294967296 ^ k
theorem RatLe.mono {x : RatL} {k m : Nat} (h : RatLe x k) (hm : k <= m) : RatLe x m := ⟨Nat.le_trans h.num hm, Nat.le_trans h.den hm⟩
theorem QLe.mk' {z : Int} {d k : Nat} (h1 : z.natAbs < 4294967296 ^ k) (h2 : d < 4294967296 ^ k) (hd : 0 < d) : QLe (mkRat z d) k := by
 rw [Rat.mkRat_def, dif_neg (by omega), Rat.normalize_eq]
 refine ⟨Nat.lt_of_le_of_lt ?_ h1, Nat.lt_of_le_of_lt (Nat.div_le_self _ _) h2⟩
 rw [Int.natAbs_ediv_of_dvd (Int.ofNat_dvd_left.2 (Nat.gcd_dvd_left _ _))]
 exact Nat.div_le_self _ _
theorem QLe.ratL {q : Rat} {k : Nat} (h : QLe q k) : RatLe (ratL q) k := by
 refine ⟨limbs_len_le h.num, ?_⟩
 show (if q.den = 1 then [] else limbs q.den).length <= k
 split
 ·simp
 ·exact limbs_len_le h.den
theorem underN_lt {d : List Nat} {k : Nat} (hl : Lim d) (h : d.length <= k) : underN d < 4294967296 ^ (k + 1) := by
 have h1 := Nat.lt_of_lt_of_le (lval_lt hl) (Nat.pow_le_pow_right (show 0 < 4294967296 by omega) (show d.length <= k + 1 by omega))
 have h2 : 4294967296 ^ 1 <= 4294967296 ^ (k + 1) := Nat.pow_le_pow_right (by omega) (by omega)
 unfold underN
 split
 ·omega
 ·exact h1
theorem QLe.ratOf {x : RatL} {k : Nat} (hx : x.Lim) (h : RatLe x k) : QLe (ratOf x) (k + 1) := by
 refine QLe.mk' ?_ (underN_lt hx.2 h.den) (underN_pos _)
 rw [sgn_natAbs]
 exact Nat.lt_of_lt_of_le (lval_lt hx.1) (Nat.pow_le_pow_right (by omega) (Nat.le_succ_of_le h.num))
theorem QLe.neg {q : Rat} {k : Nat} (h : QLe q k) : QLe (-q) k := ⟨by rw [Rat.neg_num, Int.natAbs_neg]; exact h.num, by rw [Rat.neg_den]; exact h.den⟩
end Go.Proofs.YtoppijdedkdjeaaGreat
namespace Go.Proofs.YtoppijdedkdjeaaGreat
open Go.RowKit
open Go.Lib (hid)
theorem Tryz.infoRat : (Tryz.prog.info? 37).map (fun i => (i.zero, i.size, i.bytes)) = some (some (.agg #[.bool false, .slice none 0 0, .slice none 0 0]), 3, 56) := by kernel_rfl
structure From (B : Nat) (W0 w : World) : Prop where
 base : B <= w.heap.size
 be : Below B W0 w
theorem From.start {B : Nat} {W0 : World} (h : B <= W0.heap.size) : From B W0 W0.drew := ⟨h, (Below.refl _ _).drew⟩
inductive Sp where
 | val (v : Value)
 | rat (q : RatL)
 | tup (q : RatL)
 | row (q : RatL)
structure Row1 (w : World) (v : Value) (x : RatL) : Prop where
 ex : ∃ (g : Nat) (an ad : Option Addr) (cn cd : Nat), v = .slice (some ⟨g, 0, none⟩) 1 1 /\ g < w.heap.size /\ w.cell? ⟨g, 0, none⟩ = some (.bool x.neg) /\ w.cell? ⟨g, 1, none⟩ = some (.slice an x.num.length cn) /\ w.cell? ⟨g, 2, none⟩ = some (.slice ad x.den.length cd) /\
  x.num.length <= cn /\ x.den.length <= cd /\ U32s w an x.num /\ U32s w ad x.den
theorem Row1.below {w w' : World} {v : Value} {x : RatL} (h : Row1 w v x) (hb : Below w.heap.size w w') : Row1 w' v x := by
 obtain ⟨g, an, ad, cn, cd, e, hg, h0, h1, h2, h3, h4, h5, h6⟩ := h.ex
 exact ⟨g, an, ad, cn, cd, e, Nat.lt_of_lt_of_le hg hb.size, (hb.cell (p := ⟨g, 0, none⟩) hg).trans h0, (hb.cell (p := ⟨g, 1, none⟩) hg).trans h1, (hb.cell (p := ⟨g, 2, none⟩) hg).trans h2, h3, h4, h5.below hb, h6.below hb⟩
theorem Row1.alloc {w : World} {x : RatL} {an ad : Option Addr} {cn cd : Nat} (h3 : x.num.length <= cn) (h4 : x.den.length <= cd) (h5 : U32s w an x.num) (h6 : U32s w ad x.den) (T : Nat) :
  Row1 (w.alloc (.cells #[.bool x.neg, .slice an x.num.length cn, .slice ad x.den.length cd] T)) (.slice (some ⟨w.heap.size, 0, none⟩) 1 1) x := by
 have hb : Below w.heap.size w (w.alloc (.cells #[.bool x.neg, .slice an x.num.length cn, .slice ad x.den.length cd] T)) := (Below.refl _ w).alloc (Nat.le_refl _) _
 exact ⟨w.heap.size, an, ad, cn, cd, rfl, by simp, by rw [World.cell?_alloc_at _ _ _ _ rfl]; rfl, by rw [World.cell?_alloc_at _ _ _ _ rfl]; rfl, by rw [World.cell?_alloc_at _ _ _ _ rfl]; rfl, h3, h4, h5.below hb, h6.below hb⟩
def GR (L : List Sp) (i : Nat) (v : Value) (w : World) : Prop :=
 match L[i]? with
 | some (.val x) => v = x
 | some (.rat q) => RatV w v q
 | some (.tup q) => ∃ u, v = .tuple #[u, .int .i64 0] /\ RatV w u q
 | some (.row q) => Row1 w v q
 | none => True
theorem GR_below {L : List Sp} {i : Nat} {v : Value} {w w' : World} (h : GR L i v w) (hb : Below w.heap.size w w') : GR L i v w' := by
 unfold GR at h ⊢
 split
 ·rename_i x hx; rw [hx] at h; exact h
 ·rename_i x hx; rw [hx] at h; exact h.below hb
 ·rename_i x hx; rw [hx] at h; exact let ⟨u, e, k⟩ := h; ⟨u, e, k.below hb⟩
 ·rename_i x hx; rw [hx] at h; exact h.below hb
 ·trivial
theorem outSL_fit {input : List Int} {S : List (List Int)} {l : LayL} (h1 : validL input = true) (h2 : S.length + 1 <= 64) (h3 : layOK l S.length = true) (h4 : S.all validL = true) :
  outSL input S l = if (rawL input S l).2 && validL (rawL input S l).1 then ((rawL input S l).1, 0) else ([], 7) := by
 unfold outSL
 rw [h1, h3, h4, decide_eq_true h2]
 rfl
theorem outSL_cases (input : List Int) (S : List (List Int)) (l : LayL) :
  ((outSL input S l).2 = 1 /\ (outSL input S l).1 = [] /\ ((validL input && (decide (S.length + 1 <= 64) && layOK l S.length)) && S.all validL) = false) ∨
  ((((validL input && (decide (S.length + 1 <= 64) && layOK l S.length)) && S.all validL) = true) /\ ((outSL input S l).2 = 7 /\ (outSL input S l).1 = [] /\ ((rawL input S l).2 && validL (rawL input S l).1) = false ∨
    (outSL input S l).2 = 0 /\ (outSL input S l).1 = (rawL input S l).1 /\ (rawL input S l).2 = true /\ validL (rawL input S l).1 = true)) := by
 unfold outSL
 cases h : ((validL input && (decide (S.length + 1 <= 64) && layOK l S.length)) && S.all validL) with
 | false => exact .inl ⟨rfl, rfl, rfl⟩
 | true =>
  refine .inr ⟨rfl, ?_⟩
  cases h2 : ((rawL input S l).2 && validL (rawL input S l).1) with
  | false => exact .inl ⟨rfl, rfl, rfl⟩
  | true =>
   rw [Bool.and_eq_true] at h2
   exact .inr ⟨rfl, rfl, h2.1, h2.2⟩
theorem outSL_valid {input : List Int} {S : List (List Int)} {l : LayL} (h : (outSL input S l).2 = 0) : validL (outSL input S l).1 = true := by
 rcases outSL_cases input S l with ⟨h1, _, _⟩ | ⟨_, ⟨h1, _, _⟩ | ⟨_, h2, _, h3⟩⟩
 ·omega
 ·omega
 ·rw [h2]; exact h3
theorem outSL_seven {input : List Int} {S : List (List Int)} {l : LayL} (h1 : validL input = true) (h2 : S.length + 1 <= 64) (h3 : layOK l S.length = true) (h4 : S.all validL = true) (h : (outSL input S l).2 ≠ 0) : (outSL input S l).2 = 7 := by
 rcases outSL_cases input S l with ⟨_, _, k⟩ | ⟨_, ⟨k, _, _⟩ | ⟨k, _, _, _⟩⟩
 ·rw [h1, h3, h4, decide_eq_true h2] at k; cases k
 ·exact k
 ·exact absurd k h
theorem shapesFrom_cons (input : List Int) (S : List (List Int)) (l : LayL) (r : List LayL) :
  shapesFrom input S (l :: r) = if (outSL input S l).2 = 0 then shapesFrom input (S ++ [(outSL input S l).1]) r else ([], S.length, (outSL input S l).2) := by
 rw [shapesFrom]
def Chain (input : List Int) (S T : List (List Int)) (L : List LayL) : Prop :=
 T.length = L.length /\ ∀ (j : Nat) (s : List Int) (l : LayL), T[j]? = some s -> L[j]? = some l -> outSL input (S ++ T.take j) l = (s, 0)
theorem Chain.run {input : List Int} : ∀ {L : List LayL} {S T : List (List Int)}, Chain input S T L -> shapesFrom input S L = (S ++ T, 0, 0) := by
 intro L
 induction L with
 | nil =>
  intro S T h
  have : T = [] := List.eq_nil_of_length_eq_zero h.1
  subst this
  simp [shapesFrom]
 | cons l r ih =>
  intro S T h
  obtain ⟨hl, hc⟩ := h
  match T, hl with
  | s :: T', hl =>
   have h0 := hc 0 s l rfl rfl
   rw [List.take_zero, List.append_nil] at h0
   have hn : Chain input (S ++ [s]) T' r := by
    refine ⟨by simpa using hl, fun j s' l' h1 h2 => ?_⟩
    have := hc (j + 1) s' l' h1 h2
    rw [List.take_succ_cons] at this
    rw [List.append_assoc]
    exact this
   rw [shapesFrom_cons, h0]
   simp only [if_true]
   rw [ih hn, List.append_assoc]
   rfl
theorem shapesFrom_chain {input : List Int} : ∀ (L : List LayL) (S : List (List Int)), (∃ T, Chain input S T L /\ shapesFrom input S L = (S ++ T, 0, 0)) ∨ ((shapesFrom input S L).2.2 ≠ 0 /\ (shapesFrom input S L).1 = []) := by
 intro L
 induction L with
 | nil => intro S; exact .inl ⟨[], ⟨rfl, by simp⟩, by simp [shapesFrom]⟩
 | cons l r ih =>
  intro S
  rw [shapesFrom_cons]
  by_cases h : (outSL input S l).2 = 0
  ·rw [if_pos h]
   rcases ih (S ++ [(outSL input S l).1]) with ⟨T, ⟨h1, h2⟩, h3⟩ | h1
   ·refine .inl ⟨(outSL input S l).1 :: T, ⟨by simp [h1], fun j s l' hs hl => ?_⟩, by rw [h3, List.append_assoc]; rfl⟩
    cases j with
    | zero =>
     simp at hs hl
     subst hs hl
     rw [List.take_zero, List.append_nil, <- h]
    | succ j =>
     have := h2 j s l' (by simpa using hs) (by simpa using hl)
     rw [List.append_assoc] at this
     rw [List.take_succ_cons]
     exact this
   ·exact .inr h1
  ·rw [if_neg h]
   exact .inr ⟨h, rfl⟩
theorem Chain.valid {input : List Int} {T : List (List Int)} {L : List LayL} (h : Chain input [] T L) : T.all validL = true := by
 rw [List.all_eq_true]
 intro s hs
 obtain ⟨j, hj⟩ := List.getElem?_of_mem hs
 have hlt := (List.getElem?_eq_some_iff.1 hj).1
 obtain ⟨l, hl⟩ : ∃ l, L[j]? = some l := ⟨L[j]'(by rw [<- h.1]; exact hlt), List.getElem?_eq_getElem _⟩
 have := h.2 j s l hj hl
 have h2 := outSL_valid (input := input) (S := [] ++ T.take j) (l := l) (by rw [this])
 rw [this] at h2
 exact h2
theorem shapesFrom_app {input : List Int} {T : List (List Int)} {L : List LayL} (h : Chain input [] T L) (l : LayL) :
  shapesFrom input [] (L ++ [l]) = if (outSL input T l).2 = 0 then (T ++ [(outSL input T l).1], 0, 0) else ([], (T.length : Int), (outSL input T l).2) := by
 have key : ∀ (L : List LayL) (S T : List (List Int)), Chain input S T L -> shapesFrom input S (L ++ [l]) = shapesFrom input (S ++ T) [l] := by
  intro L
  induction L with
  | nil => intro S T h; have : T = [] := List.eq_nil_of_length_eq_zero h.1; subst this; simp
  | cons a r ih =>
   intro S T h
   obtain ⟨hl, hc⟩ := h
   match T, hl with
   | s :: T', hl =>
    have h0 := hc 0 s a rfl rfl
    rw [List.take_zero, List.append_nil] at h0
    have hn : Chain input (S ++ [s]) T' r := by
     refine ⟨by simpa using hl, fun j s' l' h1 h2 => ?_⟩
     have := hc (j + 1) s' l' h1 h2
     rw [List.take_succ_cons] at this
     rw [List.append_assoc]
     exact this
    rw [List.cons_append, shapesFrom_cons, h0]
    simp only [if_true]
    rw [ih _ _ hn, List.append_assoc]
    rfl
 rw [key L [] T h, List.nil_append, shapesFrom_cons]
 rfl
theorem shapesFrom_seven {input : List Int} (hi : validL input = true) : ∀ (L : List LayL) (S : List (List Int)), S.all validL = true -> S.length + L.length <= 64 -> laysFrom L S.length = true -> (shapesFrom input S L).2.2 = 0 ∨ (shapesFrom input S L).2.2 = 7 := by
 intro L
 induction L with
 | nil => intro S _ _ _; exact .inl rfl
 | cons l r ih =>
  intro S hS hl hok
  unfold laysFrom at hok
  rw [Bool.and_eq_true] at hok
  rw [shapesFrom_cons]
  by_cases h : (outSL input S l).2 = 0
  ·rw [if_pos h]
   refine ih _ ?_ ?_ ?_
   ·rw [List.all_append, hS, List.all_cons, List.all_nil, outSL_valid h]; rfl
   ·simp at hl ⊢; omega
   ·rw [List.length_append]; simpa using hok.2
  ·rw [if_neg h]
   exact .inr (outSL_seven hi (by simp at hl; omega) hok.1 hS h)
theorem shapesL_cases (m : ModL) : (validM m = false /\ shapesL m = ([], 0, 1)) ∨ (validM m = true /\ ((∃ T, Chain m.input [] T m.layers /\ shapesL m = (T, 0, 0)) ∨ ((shapesL m).2.2 = 7 /\ (shapesL m).1 = []))) := by
 unfold shapesL
 cases h : validM m with
 | false => exact .inl ⟨rfl, rfl⟩
 | true =>
  refine .inr ⟨rfl, ?_⟩
  rw [if_pos rfl]
  have hv := h
  unfold validM at hv
  simp only [Bool.and_eq_true, decide_eq_true_eq] at hv
  rcases shapesFrom_chain (input := m.input) m.layers [] with ⟨T, h1, h2⟩ | ⟨h1, h2⟩
  ·exact .inl ⟨T, h1, by simpa using h2⟩
  ·exact .inr ⟨(shapesFrom_seven hv.1 m.layers [] rfl (by simpa using hv.2.1) (by simpa using hv.2.2)).resolve_left h1, h2⟩
theorem shapesL_app {m : ModL} (l : LayL) (h : (shapesL m).2.2 = 0) (hl : m.layers.length + 1 <= 64) :
  ((outSL m.input (shapesL m).1 l).2 = 0 /\ shapesL ⟨m.input, m.layers ++ [l]⟩ = ((shapesL m).1 ++ [(outSL m.input (shapesL m).1 l).1], 0, 0)) ∨
  ((outSL m.input (shapesL m).1 l).2 = 7 /\ shapesL ⟨m.input, m.layers ++ [l]⟩ = ([], (m.layers.length : Int), 7)) ∨
  ((outSL m.input (shapesL m).1 l).2 = 1 /\ shapesL ⟨m.input, m.layers ++ [l]⟩ = ([], 0, 1)) := by
 rcases shapesL_cases m with ⟨_, h1⟩ | ⟨hv, ⟨T, h1, h2⟩ | ⟨h1, _⟩⟩
 ·rw [h1] at h; cases h
 ·rw [h2]
  obtain ⟨hi, hlen, hat⟩ := validM_at hv
  have hTv := h1.valid
  have hTl := h1.1
  unfold validM at hv
  simp only [Bool.and_eq_true, decide_eq_true_eq] at hv
  by_cases hok : layOK l T.length = true
  ·have hvm : validM ⟨m.input, m.layers ++ [l]⟩ = true := by
    unfold validM
    simp only [Bool.and_eq_true, decide_eq_true_eq]
    refine ⟨hv.1, by simpa using hl, ?_⟩
    rw [laysFrom_append, hv.2.2]
    simp only [laysFrom, Bool.and_true, Bool.true_and, Int.zero_add]
    rw [<- hTl]; exact hok
   have happ := shapesFrom_app h1 l
   have e : shapesL ⟨m.input, m.layers ++ [l]⟩ = shapesFrom m.input [] (m.layers ++ [l]) := by unfold shapesL; rw [hvm]; rfl
   rw [e, happ]
   by_cases h0 : (outSL m.input T l).2 = 0
   ·exact .inl ⟨h0, by rw [if_pos h0]⟩
   ·have h7 := outSL_seven hi (by omega) hok hTv h0
    exact .inr (.inl ⟨h7, by rw [if_neg h0, h7, hTl]⟩)
  ·rw [Bool.not_eq_true] at hok
   have hvm : validM ⟨m.input, m.layers ++ [l]⟩ = false := by
    unfold validM
    rw [laysFrom_append]
    simp only [laysFrom, Bool.and_true, Int.zero_add]
    rw [<- hTl, hok]
    simp
   refine .inr (.inr ⟨?_, by unfold shapesL; rw [hvm]; rfl⟩)
   unfold outSL
   rw [hok]
   simp
 ·omega
theorem validL_size {s : List Int} (h : validL s = true) : 1 <= sizeL s /\ sizeL s <= 16384 := by
 have key : ∀ (l : List Int) (p : Int), 1 <= p -> p <= 16384 -> validFrom l p = true -> 1 <= prodFrom l p /\ prodFrom l p <= 16384 := by
  intro l
  induction l with
  | nil => intro p h1 h2 _; exact ⟨h1, h2⟩
  | cons d r ih =>
   intro p h1 h2 h
   simp only [validFrom] at h
   split at h
   ·cases h
   ·rename_i hc
    have := mul_bd11 h1 h2 (d := d) (by omega) (by omega)
    exact ih _ this.1 (by omega) h
 unfold sizeL
 rw [if_pos h]
 exact key s 1 (by omega) (by omega) (by have := validL_from h; simpa using this)
theorem sizeL_one {n : Int} (h1 : 1 <= n) (h2 : n <= 16384) : validL [n] = true /\ sizeL [n] = n := by
 have h : validL [n] = true := by
  unfold validL validFrom
  rw [if_neg (by omega)]
  simp [validFrom]
 exact ⟨h, by unfold sizeL; rw [if_pos h]; simp [prodFrom]⟩
theorem outSL_keeps {input : List Int} {S : List (List Int)} {l : LayL} (h : (outSL input S l).2 = 0) (hk : 5 <= l.kind) : sizeL (outSL input S l).1 = sizeL (currL input S) := by
 rcases outSL_cases input S l with ⟨h1, _, _⟩ | ⟨hc, ⟨h1, _, _⟩ | ⟨_, h2, _, h3⟩⟩
 ·omega
 ·omega
 ·rw [h2]
  rw [h2] at *
  have hv : validL (currL input S) = true := by
   simp only [Bool.and_eq_true] at hc
   unfold currL
   cases hg : S.getLast? with
   | none => exact hc.1.1
   | some s =>
    have := List.mem_of_getLast? hg
    exact List.all_eq_true.1 hc.2 s this
  unfold rawL
  rw [if_neg (by omega), if_neg (by omega), if_neg (by omega)]
  by_cases k6 : l.kind = 6
  ·rw [if_pos k6]
   have := validL_size hv
   exact (sizeL_one this.1 this.2).2
  ·rw [if_neg k6]
   split <;> rfl
end Go.Proofs.YtoppijdedkdjeaaGreat

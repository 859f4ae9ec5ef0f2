/-
  Contracts of the functions that the statement reaches: LwU, LwV, LwW.
-/
import Derived.Test.YtoppijdedkdjeaaGreatF41
set_option linter.unusedVariables false
set_option linter.unusedSimpArgs false
set_option linter.constructorNameAsVariable false
set_option linter.deprecated false
set_option maxRecDepth 100000
set_option maxHeartbeats 3200000
namespace Go.Proofs.YtoppijdedkdjeaaGreat
open Go.RowKit
open Go.Lib (hid)
def mixQ (t : Rat) : List Rat -> List Rat -> List Rat
 | x :: a, y :: b => (y + t * (x - y)) :: mixQ t a b
 | _, _ => []
theorem mix_len {t : Rat} : ∀ {a b : List Rat}, a.length = b.length -> (mixQ t a b).length = a.length
 | [], [], _ => rfl
 | x :: a, y :: b, h => by
  show (mixQ t a b).length + 1 = a.length + 1
  rw [mix_len (by simpa using h)]
 | [], _ :: _, h => by simp at h
 | _ :: _, [], h => by simp at h
theorem mix_at {t : Rat} : ∀ {a b : List Rat} (_ : a.length = b.length) (k : Nat), (mixQ t a b).getD k 0 = b.getD k 0 + t * (a.getD k 0 - b.getD k 0)
 | [], [], _, k => by
  show (0 : Rat) = 0 + t * (0 - 0)
  grind
 | x :: a, y :: b, h, 0 => rfl
 | x :: a, y :: b, h, k + 1 => by
  show (mixQ t a b).getD k 0 = b.getD k 0 + t * (a.getD k 0 - b.getD k 0)
  exact mix_at (by simpa using h) k
 | [], _ :: _, h, _ => by simp at h
 | _ :: _, [], h, _ => by simp at h
theorem mix_app {t : Rat} : ∀ {a b c d : List Rat}, a.length = b.length -> mixQ t (a ++ c) (b ++ d) = mixQ t a b ++ mixQ t c d
 | [], [], _, _, _ => rfl
 | x :: a, y :: b, c, d, h => by
  show (y + t * (x - y)) :: mixQ t (a ++ c) (b ++ d) = (y + t * (x - y)) :: (mixQ t a b ++ mixQ t c d)
  rw [mix_app (by simpa using h)]
 | [], _ :: _, _, _, h => by simp at h
 | _ :: _, [], _, _, h => by simp at h
theorem mix_map {α : Type} {t : Rat} {f g h : α -> Rat} : ∀ (l : List α), (∀ k ∈ l, f k = h k + t * (g k - h k)) -> l.map f = mixQ t (l.map g) (l.map h)
 | [], _ => rfl
 | k :: l, e => by
  show f k :: l.map f = (h k + t * (g k - h k)) :: mixQ t (l.map g) (l.map h)
  rw [e k (by simp), mix_map l (fun j hj => e j (by simp [hj]))]
theorem mix_flat {α : Type} {t : Rat} {f g h : α -> List Rat} : ∀ (l : List α), (∀ k ∈ l, f k = mixQ t (g k) (h k) /\ (g k).length = (h k).length) -> l.flatMap f = mixQ t (l.flatMap g) (l.flatMap h)
 | [], _ => rfl
 | k :: l, e => by
  rw [List.flatMap_cons, List.flatMap_cons, List.flatMap_cons, mix_app (e k (by simp)).2, <- (e k (by simp)).1, mix_flat l (fun j hj => e j (by simp [hj]))]
theorem mix_psum {t b : Rat} {ws : List Rat} {off : Nat} {ix : List Int} {x y : List Rat} (h : x.length = y.length) : ∀ k, psum b ws off ix (mixQ t x y) k = psum b ws off ix y k + t * (psum b ws off ix x k - psum b ws off ix y k)
 | 0 => by
  show b = b + t * (b - b)
  grind
 | k + 1 => by
  show psum b ws off ix (mixQ t x y) k + termQ ws off ix (mixQ t x y) k = (psum b ws off ix y k + termQ ws off ix y k) + t * ((psum b ws off ix x k + termQ ws off ix x k) - (psum b ws off ix y k + termQ ws off ix y k))
  rw [mix_psum h k]
  unfold termQ
  split
  ·rw [mix_at h]
   generalize psum b ws off ix y k = s2
   generalize psum b ws off ix x k = s1
   grind
  ·generalize psum b ws off ix y k = s2
   generalize psum b ws off ix x k = s1
   grind
theorem mix_sum {t b : Rat} {ws : List Rat} {off : Nat} {ix : List Int} {x y : List Rat} (h : x.length = y.length) : sumQ b ws off ix (mixQ t x y) = sumQ b ws off ix y + t * (sumQ b ws off ix x - sumQ b ws off ix y) := mix_psum h _
theorem mix_vals {t : Rat} {x y : List Rat} (h : x.length = y.length) (ix : List Int) : valsQ ix (mixQ t x y) = mixQ t (valsQ ix x) (valsQ ix y) := by
 unfold valsQ
 exact mix_map ix (fun k _ => mix_at h _)
theorem mix_padd {t : Rat} {x y : List Rat} (h : x.length = y.length) : ∀ k, padd (mixQ t x y) k = padd y k + t * (padd x k - padd y k)
 | 0 => mix_at h 0
 | k + 1 => by
  show padd (mixQ t x y) k + (mixQ t x y).getD (k + 1) 0 = (padd y k + y.getD (k + 1) 0) + t * ((padd x k + x.getD (k + 1) 0) - (padd y k + y.getD (k + 1) 0))
  rw [mix_padd h k, mix_at h]
  generalize padd y k = s2
  generalize padd x k = s1
  grind
theorem mix_avg {t : Rat} {x y : List Rat} (h : x.length = y.length) : avgL (mixQ t x y) = avgL y + t * (avgL x - avgL y) := by
 unfold avgL
 rw [mix_len h, mix_padd h, h]
 generalize padd y (y.length - 1) = s2
 generalize padd x (y.length - 1) = s1
 generalize ((y.length : Int) : Rat) = n
 grind
theorem mix_dense {t : Rat} {x y : List Rat} (h : x.length = y.length) (R : Nat) (bs ws : List Rat) : denseQ R bs ws (mixQ t x y) = mixQ t (denseQ R bs ws x) (denseQ R bs ws y) := by
 unfold denseQ
 refine mix_map _ (fun r _ => ?_)
 unfold denseAt
 rw [mix_len h, h]
 exact mix_sum h
theorem mix_conv {t : Rat} {x y : List Rat} (h : x.length = y.length) (O : Nat) (bs ws : List Rat) (n : Nat) (win : List (List Int)) : convQ O bs ws n win (mixQ t x y) = mixQ t (convQ O bs ws n win x) (convQ O bs ws n win y) := by
 unfold convQ
 exact mix_flat _ (fun o _ => ⟨mix_map _ (fun i _ => mix_sum h), by simp⟩)
theorem mix_pool {t : Rat} {x y : List Rat} (h : x.length = y.length) (C n : Nat) (win : List (List Int)) : poolQ avgL C n win (mixQ t x y) = mixQ t (poolQ avgL C n win x) (poolQ avgL C n win y) := by
 unfold poolQ
 refine mix_flat _ (fun o _ => ⟨mix_map _ (fun i _ => ?_), by simp⟩)
 unfold poolAt
 rw [mix_vals h]
 exact mix_avg (by rw [valsQ_len, valsQ_len])
theorem mix_plus {t : Rat} {x y a b : List Rat} (h : x.length = y.length) (g : a.length = b.length) : plusQ (mixQ t x y) (mixQ t a b) = mixQ t (plusQ x a) (plusQ y b) := by
 unfold plusQ
 rw [mix_len h, h]
 refine mix_map _ (fun k _ => ?_)
 rw [mix_at h, mix_at g]
 generalize x.getD k 0 = p1
 generalize y.getD k 0 = p2
 generalize a.getD k 0 = p3
 generalize b.getD k 0 = p4
 grind
def affL (l : LayL) : Prop := l.kind ≠ 5 /\ l.kind ≠ 3
theorem mix_lay {t : Rat} {l : LayL} (ha : affL l) (s : List Int) {x y a b : List Rat} (h : x.length = y.length) (g : a.length = b.length) : layQ l s (mixQ t x y) (mixQ t a b) = mixQ t (layQ l s x a) (layQ l s y b) := by
 unfold layQ
 split
 ·exact mix_dense h _ _ _
 ·split
  ·exact mix_conv h _ _ _ _ _
  ·rw [if_neg ha.2, if_neg ha.2, if_neg ha.2]
   split
   ·exact mix_pool h _ _ _
   ·rw [if_neg ha.1, if_neg ha.1, if_neg ha.1]
    split
    ·exact mix_plus h g
    ·rfl
theorem lay_len {l : LayL} (s : List Int) {x y a b : List Rat} (h : x.length = y.length) : (layQ l s x a).length = (layQ l s y b).length := by
 have pool : ∀ (f : List Rat -> Rat) (C n : Nat) (win : List (List Int)), (poolQ f C n win x).length = (poolQ f C n win y).length := fun f C n win => by simp [poolQ]
 unfold layQ
 split
 ·simp [denseQ]
 ·split
  ·simp [convQ]
  ·split
   ·exact pool _ _ _ _
   ·split
    ·exact pool _ _ _ _
    ·split
     ·simp [reluQ, h]
     ·split
      ·simp [plusQ, h]
      ·exact h
structure MixR (t : Rat) (M X Y : List (List Rat)) : Prop where
 l1 : M.length = X.length
 l2 : X.length = Y.length
 at' : ∀ j, M.getD j [] = mixQ t (X.getD j []) (Y.getD j []) /\ (X.getD j []).length = (Y.getD j []).length
theorem MixR.nil (t : Rat) : MixR t [] [] [] := ⟨rfl, rfl, fun j => ⟨rfl, rfl⟩⟩
theorem getD_snoc {α : Type} (l : List α) (a d : α) (j : Nat) : (l ++ [a]).getD j d = if j < l.length then l.getD j d else if j = l.length then a else d := by
 simp only [List.getD_eq_getElem?_getD]
 split
 ·rename_i h; rw [List.getElem?_append_left h]
 ·rename_i h
  rw [List.getElem?_append_right (by omega)]
  split
  ·rename_i e; rw [e, Nat.sub_self]; rfl
  ·rw [List.getElem?_eq_none (by simp; omega)]; rfl
theorem MixR.snoc {t : Rat} {M X Y : List (List Rat)} {a b : List Rat} (h : MixR t M X Y) (g : a.length = b.length) : MixR t (M ++ [mixQ t a b]) (X ++ [a]) (Y ++ [b]) := by
 refine ⟨by simp [h.l1], by simp [h.l2], fun j => ?_⟩
 rw [getD_snoc, getD_snoc, getD_snoc, h.l1, h.l2]
 split
 ·exact h.at' j
 ·split
  ·exact ⟨rfl, g⟩
  ·exact ⟨rfl, rfl⟩
theorem last_getD (d : List Rat) (Y : List (List Rat)) : currQ d Y = if Y.length = 0 then d else Y.getD (Y.length - 1) [] := by
 unfold currQ
 rw [List.getLast?_eq_getElem?]
 split
 ·rename_i h
  rw [List.length_eq_zero_iff.1 h]; rfl
 ·rename_i h
  rw [List.getD_eq_getElem?_getD, List.getElem?_eq_getElem (by omega)]; rfl
theorem MixR.curr {t : Rat} {M X Y : List (List Rat)} {x y : List Rat} (h : MixR t M X Y) (g : x.length = y.length) : currQ (mixQ t x y) M = mixQ t (currQ x X) (currQ y Y) /\ (currQ x X).length = (currQ y Y).length := by
 rw [last_getD, last_getD, last_getD, h.l1, h.l2]
 split
 ·exact ⟨rfl, g⟩
 ·exact h.at' _
theorem MixR.frm {t : Rat} {M X Y : List (List Rat)} {x y : List Rat} (h : MixR t M X Y) (g : x.length = y.length) (f : Int) : fromQ (mixQ t x y) M f = mixQ t (fromQ x X f) (fromQ y Y f) /\ (fromQ x X f).length = (fromQ y Y f).length := by
 unfold fromQ
 split
 ·exact h.at' _
 ·exact ⟨rfl, g⟩
theorem mix_trace {t : Rat} {input : List Int} {x y : List Rat} (g : x.length = y.length) : ∀ (L : List LayL) (S : List (List Int)) (M X Y : List (List Rat)), (∀ l ∈ L, affL l) -> MixR t M X Y ->
  MixR t (traceFrom input (mixQ t x y) S M L) (traceFrom input x S X L) (traceFrom input y S Y L)
 | [], _, _, _, _, _, h => h
 | l :: r, S, M, X, Y, ha, h => by
  have h1 := h.curr g
  have h2 := h.frm g l.frm
  show MixR t (traceFrom input (mixQ t x y) (S ++ [(outSL input S l).1]) (M ++ [layQ l (currL input S) (currQ (mixQ t x y) M) (fromQ (mixQ t x y) M l.frm)]) r) (traceFrom input x (S ++ [(outSL input S l).1]) (X ++ [layQ l (currL input S) (currQ x X) (fromQ x X l.frm)]) r)
   (traceFrom input y (S ++ [(outSL input S l).1]) (Y ++ [layQ l (currL input S) (currQ y Y) (fromQ y Y l.frm)]) r)
  refine mix_trace g r _ _ _ _ (fun k hk => ha k (by simp [hk])) ?_
  rw [h1.1, h2.1, mix_lay (ha l (by simp)) _ h1.2 h2.2]
  exact h.snoc (lay_len _ h1.2)
theorem affine_run {m : ModL} {t : Rat} {x y : List Rat} (ha : ∀ l ∈ m.layers, affL l) (g : x.length = y.length) :
  (runL m x).2 = (runL m y).2 /\ (runL m (mixQ t x y)).2 = (runL m x).2 /\ ((runL m x).2 = 0 -> ∃ a b : List Rat, a = currQ x (traceQ m x) /\ b = currQ y (traceQ m y) /\ runL m x = (a.map ratL, 0) /\ runL m y = (b.map ratL, 0) /\ runL m (mixQ t x y) = ((mixQ t a b).map ratL, 0) /\ a.length = b.length /\
   (shapesL m).2.2 = 0 /\ (x.length : Int) = sizeL m.input) := by
 have hM : MixR t (traceQ m (mixQ t x y)) (traceQ m x) (traceQ m y) := mix_trace g m.layers [] [] [] [] ha (MixR.nil t)
 rw [runL_eq, runL_eq, runL_eq, mix_len g, <- g]
 by_cases h0 : (shapesL m).2.2 = 0
 ·rw [if_pos h0, if_pos h0, if_pos h0]
  by_cases hx : (x.length : Int) = sizeL m.input
  ·rw [if_pos hx, if_pos hx, if_pos hx]
   refine ⟨rfl, rfl, fun _ => ⟨_, _, rfl, rfl, rfl, rfl, ?_, (hM.curr g).2, h0, hx⟩⟩
   rw [(hM.curr g).1]
  ·rw [if_neg hx, if_neg hx, if_neg hx]
   exact ⟨rfl, rfl, fun h => absurd h (by decide)⟩
 ·rw [if_neg h0, if_neg h0, if_neg h0]
  exact ⟨rfl, rfl, fun h => absurd h h0⟩
theorem trace_bd {input : List Int} {x : List Rat} : ∀ {L : List LayL} {S T : List (List Int)} {Y : List (List Rat)} {D B : Nat}, TrI input x S Y D B -> Chain input S T L -> (∀ l ∈ L, SmallL l) ->
  ∃ D' B', TrI input x (S ++ T) (traceFrom input x S Y L) D' B' /\ D' <= D * WQ ^ L.length /\ B' <= 9671406556917033397649408 ^ L.length * B
 | [], S, T, Y, D, B, hT, hc, _ => by
  have : T = [] := List.eq_nil_of_length_eq_zero hc.1
  subst this
  exact ⟨D, B, by rw [List.append_nil]; exact hT, by simp, by simp⟩
 | l :: L, S, T, Y, D, B, hT, hc, hs => by
  obtain ⟨s, T', rfl, ho, hc'⟩ := hc.head
  obtain ⟨j, j1, j2, j3⟩ := hT.step (by rw [ho]) (hs l (by simp)) (curr_valid (by rw [ho]))
  rw [ho] at j3
  obtain ⟨D', B', h1, h2, h3⟩ := trace_bd j3 hc' (fun l hl => hs l (by simp [hl]))
  refine ⟨D', B', ?_, Nat.le_trans h2 ?_, Nat.le_trans h3 ?_⟩
  ·have e : traceFrom input x S Y (l :: L) = traceFrom input x (S ++ [s]) (Y ++ [layQ l (currL input S) (currQ x Y) (fromQ x Y l.frm)]) L := by
    show traceFrom input x (S ++ [(outSL input S l).1]) _ _ = _
    rw [ho]
   rw [e]
   rw [List.append_assoc] at h1
   exact h1
  ·rw [List.length_cons, Nat.pow_succ, Nat.mul_assoc, Nat.mul_comm (WQ ^ L.length)]
   exact Nat.mul_le_mul_left _ (Nat.mul_le_mul_right _ j2)
  ·rw [List.length_cons, Nat.pow_succ, <- Nat.mul_assoc]
   exact Nat.le_refl _
theorem out_bd {m : ModL} {x : List Rat} {D B : Nat} (hxB : BdL D B x) (hD : 0 < D) (hB : 1 <= B) (hs : ∀ l ∈ m.layers, SmallL l) (h0 : (shapesL m).2.2 = 0) (hx : (x.length : Int) = sizeL m.input) :
  ∃ D' B', 0 < D' /\ BdL D' B' (currQ x (traceQ m x)) /\ D' <= D * WQ ^ m.layers.length /\ B' <= 9671406556917033397649408 ^ m.layers.length * B /\ (currQ x (traceQ m x)).length <= 16384 := by
 obtain ⟨T, hF⟩ := fits_of (m := m) x h0
 have ht : TrI m.input x [] [] D B := ⟨rfl, by simp, hx, hD, hB, hxB, by simp⟩
 obtain ⟨D', B', h1, h2, h3⟩ := trace_bd ht hF.ch hs
 rw [List.nil_append] at h1
 have h1' : TrI m.input x T (traceQ m x) D' B' := h1
 obtain ⟨c1, c2⟩ := h1'.curr
 obtain ⟨v1, v2, _⟩ := hF.valid
 have := (validL_size (curr_ok v1 v2)).2
 exact ⟨D', B', h1'.hD, c2, h2, h3, by omega⟩
structure MixOK (t : Rat) (a b : List Rat) : Prop where
 lt : RatLe (ratL t) 524285
 la : ∀ q ∈ a, RatLe (ratL q) 524285
 lb : ∀ q ∈ b, RatLe (ratL q) 524285
 sub : ∀ p ∈ a, ∀ q ∈ b, RatLe (ratL (p - q)) 524285
 mul : ∀ p ∈ a, ∀ q ∈ b, RatLe (ratL (t * (p - q))) 524285
theorem wide_le (M p r c : Nat) (hM : 2 <= M) {D B : Nat} (hD : D <= M ^ p) (hB : B <= M ^ r) (h : r + p + 2 <= c) : B * D + D < M ^ c := pow_room M hM h hB hD
theorem Bd.wide {D B p r : Nat} {q : Rat} (h : Bd D B q) (hD : D <= 4294967296 ^ p) (hB : B <= 4294967296 ^ r) (hc : r + p + 2 <= 524285) : RatLe (ratL q) 524285 := by
 generalize hM : (4294967296 : Nat) = M at hD hB
 have hM2 : 2 <= M := by omega
 obtain ⟨c, hcc⟩ : ∃ c : Nat, c = 524285 := ⟨_, rfl⟩
 rw [<- hcc] at hc ⊢
 have := wide_le M p r c hM2 hD hB hc
 subst hM
 exact h.le this
theorem mul_pow_le {M a b x y : Nat} (hx : x <= M ^ a) (hy : y <= M ^ b) : x * y <= M ^ (a + b) := by rw [Nat.pow_add]; exact Nat.mul_le_mul hx hy
theorem add_pow_le {M a x y : Nat} (hM : 2 <= M) (hx : x <= M ^ a) (hy : y <= M ^ a) : x + y <= M ^ (a + 1) := by
 rw [Nat.pow_succ]
 have : M ^ a * 2 <= M ^ a * M := Nat.mul_le_mul_left _ hM
 omega
theorem mix_ok {t : Rat} {a b : List Rat} {Dt Bt Da Ba Db Bb p r : Nat} (ht : Bd Dt Bt t) (ha : BdL Da Ba a) (hb : BdL Db Bb b) (hDa : 0 < Da) (hDb : 0 < Db) (h1 : Dt <= 4294967296 ^ p) (h2 : Da <= 4294967296 ^ p) (h3 : Db <= 4294967296 ^ p)
  (g1 : Bt <= 4294967296 ^ r) (g2 : Ba <= 4294967296 ^ r) (g3 : Bb <= 4294967296 ^ r) (hc : (r + (r + 1)) + (p + (p + p)) + 2 <= 524285) : MixOK t a b := by
 have hsub : ∀ u ∈ a, ∀ v ∈ b, Bd (Da * Db) (Ba + Bb) (u - v) := fun u hu v hv => ((ha u hu).bump hDb).sub (by rw [Nat.mul_comm]; exact (hb v hv).bump hDa)
 have hD2 : Da * Db <= 4294967296 ^ (p + p) := mul_pow_le h2 h3
 have hB2 : Ba + Bb <= 4294967296 ^ (r + 1) := add_pow_le (by omega) g2 g3
 exact ⟨ht.wide h1 g1 (by omega), fun q hq => (ha q hq).wide h2 g2 (by omega), fun q hq => (hb q hq).wide h3 g3 (by omega), fun u hu v hv => (hsub u hu v hv).wide hD2 hB2 (by omega),
  fun u hu v hv => (ht.mul (hsub u hu v hv)).wide (mul_pow_le h1 hD2) (mul_pow_le g1 hB2) hc⟩
structure Line (m : ModL) (X Y : List RatL) (tr : RatL) : Prop where
 bx : X = (X.map ratOf).map ratL
 by' : Y = (Y.map ratOf).map ratL
 bt : tr = ratL (ratOf tr)
 ok : MixOK (ratOf tr) (X.map ratOf) (Y.map ratOf)
 run : ∃ D B, 0 < D /\ 1 <= B /\ BdL D B (mixQ (ratOf tr) (X.map ratOf) (Y.map ratOf)) /\ RoomK 12 D B
 out : (shapesL m).2.2 = 0 -> (X.length : Int) = sizeL m.input -> (Y.length : Int) = sizeL m.input -> ∀ a b, a = currQ (X.map ratOf) (traceQ m (X.map ratOf)) -> b = currQ (Y.map ratOf) (traceQ m (Y.map ratOf)) -> MixOK (ratOf tr) a b /\ a.length <= 16384
theorem mem_mix {t q : Rat} : ∀ {a b : List Rat}, q ∈ mixQ t a b -> ∃ x ∈ a, ∃ y ∈ b, q = y + t * (x - y)
 | x :: a, y :: b, h => by
  rcases List.mem_cons.1 h with e | e
  ·exact ⟨x, by simp, y, by simp, e⟩
  ·obtain ⟨u, hu, v, hv, e⟩ := mem_mix e
   exact ⟨u, by simp [hu], v, by simp [hv], e⟩
 | [], [], h => by cases h
 | [], _ :: _, h => by cases h
 | _ :: _, [], h => by cases h
theorem line_of {m : ModL} {X Y : List RatL} {tr : RatL} (h1 : fairE m X = true) (h2 : fairE m Y = true) (h3 : littleL [tr] = true) : Line m X Y tr := by
 have p1 := fair_paid h1
 have p2 := fair_paid h2
 have lx : littleL X = true := by unfold fairE at h1; simp only [Bool.and_eq_true] at h1; exact h1.2.2.2.2.2
 have ly : littleL Y = true := by unfold fairE at h2; simp only [Bool.and_eq_true] at h2; exact h2.2.2.2.2.2
 obtain ⟨bx, sx⟩ := little_back lx
 obtain ⟨bY, sy⟩ := little_back ly
 obtain ⟨bt, st⟩ := little_back h3
 have bt' : tr = ratL (ratOf tr) := by simpa using bt
 obtain ⟨W, w1, w2, w3⟩ := BdL.small (X.map ratOf ++ (Y.map ratOf ++ [ratOf tr])) (fun q hq => by
  rcases List.mem_append.1 hq with h | h
  ·exact sx q h
  ·rcases List.mem_append.1 h with h | h
   ·exact sy q h
   ·exact st q (by simpa using h))
 have hl1 := p1.xl
 have hl2 := p2.xl
 have hln := p1.lens
 have hsm := p1.sm
 have hW : W <= 4294967296 ^ 61 := Nat.le_trans w2 (Nat.pow_le_pow_right (by omega) (by simp; omega))
 have hX : BdL W 18446744073709551616 (X.map ratOf) := fun q hq => w3 q (by simp [hq])
 have hY : BdL W 18446744073709551616 (Y.map ratOf) := fun q hq => w3 q (List.mem_append_right _ (List.mem_append_left _ hq))
 have hT : Bd W 18446744073709551616 (ratOf tr) := w3 _ (by simp)
 have hU : (18446744073709551616 : Nat) <= 4294967296 ^ 2 := by decide
 refine ⟨bx, bY, bt', ?_, ?_, ?_⟩
 ·exact mix_ok (p := 61) (r := 2) hT hX hY w1 w1 hW hW hW hU hU hU (by omega)
 ·refine ⟨W * W, 18446744073709551616 + 18446744073709551616 * (18446744073709551616 + 18446744073709551616), Nat.mul_pos w1 w1, by omega, fun q hq => ?_, ?_⟩
  ·obtain ⟨x, hx, y, hy, rfl⟩ := mem_mix hq
   exact ((hY y hy).bump w1).add (hT.mul ((hX x hx).sub (hY y hy)))
  ·exact room_ofU (n := 61 + 61) (u := 5) (mul_pow_le hW hW) (by decide) (by omega)
 ·intro h0 hx hy a b ea eb
  obtain ⟨Da, Ba, a1, a2, a3, a4, a5⟩ := out_bd (m := m) hX w1 (by omega) hsm h0 (by rw [List.length_map]; exact hx)
  obtain ⟨Db, Bb, b1, b2, b3, b4, _⟩ := out_bd (m := m) hY w1 (by omega) hsm h0 (by rw [List.length_map]; exact hy)
  rw [<- ea] at a2 a5
  rw [<- eb] at b2
  refine ⟨?_, a5⟩
  obtain ⟨e, he, hE⟩ := WQ_pow
  have key : W * WQ ^ m.layers.length <= 4294967296 ^ (61 + e * 8) := by
   refine mul_pow_le hW ?_
   rw [hE, <- Nat.pow_mul]
   exact Nat.pow_le_pow_right (by omega) (Nat.mul_le_mul_left _ hln)
  have keyB : 9671406556917033397649408 ^ m.layers.length * 18446744073709551616 <= 4294967296 ^ (3 * 8 + 2) := by
   refine mul_pow_le ?_ hU
   refine Nat.le_trans (pow_le3 (M := 4294967296) (by decide) m.layers.length) (Nat.pow_le_pow_right (by omega) (by omega))
  have hWt : W <= 4294967296 ^ (61 + e * 8) := Nat.le_trans hW (Nat.pow_le_pow_right (by omega) (by omega))
  have hUt : (18446744073709551616 : Nat) <= 4294967296 ^ (3 * 8 + 2) := Nat.le_trans hU (Nat.pow_le_pow_right (by omega) (by omega))
  exact mix_ok hT a2 b2 a1 b1 hWt (Nat.le_trans a3 key) (Nat.le_trans b3 key) hUt (Nat.le_trans a4 keyB) (Nat.le_trans b4 keyB) (by omega)
def mixE (t : Rat) (a b : List Rat) (j : Nat) : Rat := b.getD j 0 + t * (a.getD j 0 - b.getD j 0)
def mixK (t : Rat) (a b : List Rat) (k : Nat) : List Rat := (List.range k).map (mixE t a b)
theorem mixK_len (t : Rat) (a b : List Rat) (k : Nat) : ((mixK t a b k).map ratL).length = k := by simp [mixK]
theorem mixK_succ (t : Rat) (a b : List Rat) (k : Nat) : (mixK t a b (k + 1)).map ratL = (mixK t a b k).map ratL ++ [ratL (mixE t a b k)] := by simp [mixK, List.range_succ]
theorem mixK_all {t : Rat} {a b : List Rat} (h : a.length = b.length) : mixQ t a b = mixK t a b a.length := by
 refine List.ext_getElem (by rw [mix_len h]; simp [mixK]) fun i h1 h2 => ?_
 have e := mix_at (t := t) h i
 rw [List.getD_eq_getElem?_getD, List.getElem?_eq_getElem h1] at e
 simp only [mixK, List.getElem_map, List.getElem_range]
 exact e
theorem kMix {w : World} {v : Value} {t : RatL} {tq : Rat} {aq bq' : List Rat} {aa ab : Option Addr} {n : Nat} (ca cb : Nat) (hv : RatV w v t) (ht : t = ratL tq) (hA : RatsAt w aa (aq.map ratL)) (hB : RatsAt w ab (bq'.map ratL)) (hn : aq.length = n) (hn2 : bq'.length = n) (hnb : n <= 1000000) (hok : MixOK tq aq bq') :
  Calls Tryz.prog 18 #[v, .slice aa n ca, .slice ab n cb] w (RowRet w ((mixQ tq aq bq').map ratL)) := by
 have hE := mixK_all (t := tq) (hn.trans hn2.symm)
 rw [hn] at hE
 rw [hE]
 obtain ⟨tn, td, tcn, tcd, rfl, p2, p3, p4, p5⟩ := hv.ex
 have HV := hid hv
 have HT := hid ht
 have HA := hid hA
 have HBi := hid hB
 have HN := hid hn
 have HN2 := hid hn2
 have HOk := hid hok
 have hal : Below w.heap.size w (w.alloc (ratO t tn tcn td tcd 37)) := (Below.refl _ _).alloc (Nat.le_refl _) _
 have HBx := hid (Box3.alloc w (.bool t.neg) (.slice tn t.num.length tcn) (.slice td t.den.length tcd) 37)
 have HB := hid hal
 clear hv ht hA hB hn hn2 hok hal p4 p5 hE
 go_enter Tryz.func18, Tryz.ntmps18
 go_upto_region 1 with fail
 generalize w.alloc (ratO t tn tcn td tcd 37) = Wx at *
 go_wp2
 go_loopw [7, 8] (fun v i wr => ∃ (k : Nat) (a : Option Addr) (c : Nat), k <= n /\ v = .slice a k c /\ i = .int .i64 (k : Int) /\ Hid (OutI Wx wr (.slice a k c) ((mixK tq aq bq' k).map ratL))) (fun _ i _ => n - (intOf i).toNat)
 case atStart => exact ⟨0, none, 0, Nat.zero_le _, rfl, rfl, OutI.start Wx⟩
 case round =>
  obtain ⟨k, b0, k0, hk, rfl, rfl, HOut⟩ := hrel
  by_cases hlt : k < n
  ·have hbr : Below w.heap.size w wr := HB.out.trans (HOut.out.bl.mono HB.out.size)
   obtain ⟨ba, oa, x, xn, xd, xcn, xcd, rfl, hba, hx, xc0, xc1, xc2, hxv⟩ := HA.out.pick (k := k) (by rw [List.length_map, HN.out]; exact hlt)
   obtain ⟨bb, ob, y, yn, yd, ycn, ycd, rfl, hbb, hy, yc0, yc1, yc2, hyv⟩ := HBi.out.pick (k := k) (by rw [List.length_map, HN2.out]; exact hlt)
   obtain ⟨hx1, hx2⟩ := map_get hx
   obtain ⟨hy1, hy2⟩ := map_get hy
   obtain ⟨d, hd⟩ : ∃ d, d = ratL (ratOf x - ratOf y) := ⟨_, rfl⟩
   obtain ⟨pr, hpr⟩ : ∃ pr, pr = ratL (ratOf t * ratOf d) := ⟨_, rfl⟩
   obtain ⟨s1, hs1⟩ : ∃ s1, s1 = ratL (mixE tq aq bq' k) := ⟨_, rfl⟩
   have hq : ratL (ratOf y + ratOf pr) = s1 := by
    rw [hs1, hpr, hd, HT.out, ratOf_ratL, ratOf_ratL, ratOf_ratL, hx1, hy1]; rfl
   have hma : aq.getD k 0 ∈ aq := by
    rw [List.getD_eq_getElem?_getD, List.getElem?_eq_getElem (by rw [HN.out]; exact hlt)]; exact List.getElem_mem _
   have hmb : bq'.getD k 0 ∈ bq' := by
    rw [List.getD_eq_getElem?_getD, List.getElem?_eq_getElem (by rw [HN2.out]; exact hlt)]; exact List.getElem_mem _
   have HSub : Hid (∀ W, Below wr.heap.size wr W -> Calls Tryz.prog 41 #[.agg #[.bool x.neg, .slice xn x.num.length xcn, .slice xd x.den.length xcd], .agg #[.bool y.neg, .slice yn y.num.length ycn, .slice yd y.den.length ycd]] W (RetR W d)) := fun W hb => by
    have hbw := hbr.trans (hb.mono hbr.size)
    rw [hd]
    exact r3Sub (hxv.below hbw) (hyv.below hbw) (by rw [hx2]; exact (HOk.out.la _ hma).mono (by omega)) (by rw [hy2]; exact HOk.out.lb _ hmb)
   have HMul : Hid (∀ W, Below wr.heap.size wr W -> ∀ z, RatV W z d -> Calls Tryz.prog 23 #[.agg #[.bool t.neg, .slice tn t.num.length tcn, .slice td t.den.length tcd], z] W (RetR W pr)) := fun W hb z hz => by
    have hbw := hbr.trans (hb.mono hbr.size)
    rw [hpr]
    exact r3Mul (HV.out.below hbw) hz (by rw [HT.out]; exact HOk.out.lt.mono (by omega)) (by rw [hd, hx1, hy1]; exact (HOk.out.sub _ hma _ hmb).mono (by omega))
   have HAdd : Hid (∀ W, Below wr.heap.size wr W -> ∀ z, RatV W z pr -> Calls Tryz.prog 22 #[.agg #[.bool y.neg, .slice yn y.num.length ycn, .slice yd y.den.length ycd], z] W (RetR W s1)) := fun W hb z hz => by
    have hbw := hbr.trans (hb.mono hbr.size)
    have h := r3Add (hyv.below hbw) hz (by rw [hy2]; exact (HOk.out.lb _ hmb).mono (by omega)) (by rw [hpr, hd, HT.out, ratOf_ratL, ratOf_ratL, hx1, hy1]; exact (HOk.out.mul _ hma _ hmb).mono (by omega))
    rw [hq] at h
    exact h
   have HBr := hid (HBx.out.below HOut.out.bl)
   have HCe : Hid (∀ W, Below wr.heap.size wr W -> W.cell? ⟨w.heap.size, 0, none⟩ = some (.bool t.neg) /\ W.cell? ⟨w.heap.size, 1, none⟩ = some (.slice tn t.num.length tcn) /\ W.cell? ⟨w.heap.size, 2, none⟩ = some (.slice td t.den.length tcd) /\
     W.cell? ⟨ba, oa + k * 3, none⟩ = some (.bool x.neg) /\ W.cell? ⟨ba, oa + k * 3 + 1, none⟩ = some (.slice xn x.num.length xcn) /\ W.cell? ⟨ba, oa + k * 3 + 2, none⟩ = some (.slice xd x.den.length xcd) /\
     W.cell? ⟨bb, ob + k * 3, none⟩ = some (.bool y.neg) /\ W.cell? ⟨bb, ob + k * 3 + 1, none⟩ = some (.slice yn y.num.length ycn) /\ W.cell? ⟨bb, ob + k * 3 + 2, none⟩ = some (.slice yd y.den.length ycd)) := fun W hb => by
    have hbw := hbr.trans (hb.mono hbr.size)
    have hB3 := HBr.out.below hb
    exact ⟨hB3.c0, hB3.c1, hB3.c2, (hbw.cell hba).trans xc0, (hbw.cell hba).trans xc1, (hbw.cell hba).trans xc2, (hbw.cell hbb).trans yc0, (hbw.cell hbb).trans yc1, (hbw.cell hbb).trans yc2⟩
   have HStep : Hid _ := mixK_succ tq aq bq' k
   rw [<- hs1] at HStep
   have HLn := hid (mixK_len tq aq bq' k)
   clear hx hy hx1 hx2 hy1 hy2 hd hpr hs1 hq hma hmb hxv hyv xc0 xc1 xc2 yc0 yc1 yc2 hbr
   go_upto_region 5 with fail
   refine wp_region_slots_tail 18 (by kernel_rfl) (by kernel_rfl) (by kernel_rfl) (by kernel_rfl) (by decide) (From wr.heap.size wr) (fun w w' => Below w.heap.size w w') (GR [.val (.slice b0 k k0), .val (.slice (some ⟨bb, ob, none⟩) n cb), .val (.int .i64 (k : Int)), .val (.pointer (some ⟨bb, ob + k * 3, none⟩)), .val (.agg #[.bool y.neg, .slice yn y.num.length ycn, .slice yd y.den.length ycd]), .val (.agg #[.bool t.neg, .slice tn t.num.length tcn, .slice td t.den.length tcd]), .val (.slice (some ⟨ba, oa, none⟩) n ca), .val (.int .i64 (k : Int)), .val (.pointer (some ⟨ba, oa + k * 3, none⟩)), .val (.agg #[.bool x.neg, .slice xn x.num.length xcn, .slice xd x.den.length xcd]), .val (.slice (some ⟨bb, ob, none⟩) n cb), .val (.int .i64 (k : Int)), .val (.pointer (some ⟨bb, ob + k * 3, none⟩)), .val (.agg #[.bool y.neg, .slice yn y.num.length ycn, .slice yd y.den.length ycd]), .rat d, .rat pr, .rat s1, .row s1]) (fun i v w w' h hb => GR_below h hb) (From.start (Nat.le_refl _)) ?_ ?_
   ·intro ops
    simp only [List.take_succ_cons, List.take_zero, Shows]
    refine ⟨?_, ?_, ?_, ?_, ?_, ?_, ?_, ?_, ?_, ?_, ?_, ?_, ?_, ?_, ?_, ?_, ?_, ?_, trivial⟩
    all_goals (intro g W hR hL; have hB := hR.base; obtain ⟨t0, t1, t2, x0, x1, x2, y0, y1, y2⟩ := HCe.out W hR.be; simp only [Laid, Region.binds, forall_const, Bool.false_eq_true, false_implies, GR, List.getElem?_cons_zero, List.getElem?_cons_succ] at hL; simp [fillFrom, Act.put])
    ·clear hL
     have HR := hid hR
     clear hR
     go_wp2
     exact ⟨_, rfl, HR.out, Below.refl _ _, rfl⟩
    ·clear hL
     have HR := hid hR
     clear hR
     go_wp2
     exact ⟨_, rfl, HR.out, Below.refl _ _, rfl⟩
    ·clear hL
     have HR := hid hR
     clear hR
     go_wp2
     exact ⟨_, rfl, HR.out, Below.refl _ _, rfl⟩
    ·generalize g 1 = y1 at hL ⊢
     generalize g 2 = y2 at hL ⊢
     obtain ⟨rfl, rfl, _⟩ := hL
     have HR := hid hR
     clear hR
     go_wp2
     exact ⟨_, rfl, HR.out, Below.refl _ _, rfl⟩
    ·generalize g 3 = y3 at hL ⊢
     obtain ⟨rfl, _⟩ := hL
     have HR := hid hR
     clear hR
     go_wp2
     exact ⟨_, rfl, HR.out, Below.refl _ _, rfl⟩
    ·clear hL
     have HR := hid hR
     clear hR
     go_wp2
     exact ⟨_, rfl, HR.out, Below.refl _ _, rfl⟩
    ·clear hL
     have HR := hid hR
     clear hR
     go_wp2
     exact ⟨_, rfl, HR.out, Below.refl _ _, rfl⟩
    ·clear hL
     have HR := hid hR
     clear hR
     go_wp2
     exact ⟨_, rfl, HR.out, Below.refl _ _, rfl⟩
    ·generalize g 6 = y6 at hL ⊢
     generalize g 7 = y7 at hL ⊢
     obtain ⟨rfl, rfl, _⟩ := hL
     have HR := hid hR
     clear hR
     go_wp2
     exact ⟨_, rfl, HR.out, Below.refl _ _, rfl⟩
    ·generalize g 8 = y8 at hL ⊢
     obtain ⟨rfl, _⟩ := hL
     have HR := hid hR
     clear hR
     go_wp2
     exact ⟨_, rfl, HR.out, Below.refl _ _, rfl⟩
    ·clear hL
     have HR := hid hR
     clear hR
     go_wp2
     exact ⟨_, rfl, HR.out, Below.refl _ _, rfl⟩
    ·clear hL
     have HR := hid hR
     clear hR
     go_wp2
     exact ⟨_, rfl, HR.out, Below.refl _ _, rfl⟩
    ·generalize g 10 = y10 at hL ⊢
     generalize g 11 = y11 at hL ⊢
     obtain ⟨rfl, rfl, _⟩ := hL
     have HR := hid hR
     clear hR
     go_wp2
     exact ⟨_, rfl, HR.out, Below.refl _ _, rfl⟩
    ·generalize g 12 = y12 at hL ⊢
     obtain ⟨rfl, _⟩ := hL
     have HR := hid hR
     clear hR
     go_wp2
     exact ⟨_, rfl, HR.out, Below.refl _ _, rfl⟩
    ·generalize g 9 = y9 at hL ⊢
     generalize g 13 = y13 at hL ⊢
     obtain ⟨rfl, rfl, _⟩ := hL
     have HR := hid hR
     clear hR
     have HCt := hid (HSub.out W HR.out.be)
     go_wp2_with fail
     refine HCt.out.mono ?_
     rintro e w1 ⟨v1, rfl, kv, kb⟩
     have KV := hid kv
     have KB := hid kb
     clear kv kb HCt
     go_wp2
     exact ⟨_, rfl, ⟨Nat.le_trans HR.out.base KB.out.size, HR.out.be.trans (KB.out.mono HR.out.base)⟩, KB.out, KV.out⟩
    ·generalize g 5 = y5 at hL ⊢
     generalize g 14 = y14 at hL ⊢
     obtain ⟨rfl, H14, _, _⟩ := hL
     have K14 := hid H14
     have HR := hid hR
     clear hR H14
     have HCt := hid (HMul.out W HR.out.be _ K14.out)
     go_wp2_with fail
     refine HCt.out.mono ?_
     rintro e w1 ⟨v1, rfl, kv, kb⟩
     have KV := hid kv
     have KB := hid kb
     clear kv kb HCt
     go_wp2
     exact ⟨_, rfl, ⟨Nat.le_trans HR.out.base KB.out.size, HR.out.be.trans (KB.out.mono HR.out.base)⟩, KB.out, KV.out⟩
    ·generalize g 4 = y4 at hL ⊢
     generalize g 15 = y15 at hL ⊢
     obtain ⟨rfl, H15, _, _⟩ := hL
     have K15 := hid H15
     have HR := hid hR
     clear hR H15
     have HCt := hid (HAdd.out W HR.out.be _ K15.out)
     go_wp2_with fail
     refine HCt.out.mono ?_
     rintro e w1 ⟨v1, rfl, kv, kb⟩
     have KV := hid kv
     have KB := hid kb
     clear kv kb HCt
     go_wp2
     exact ⟨_, rfl, ⟨Nat.le_trans HR.out.base KB.out.size, HR.out.be.trans (KB.out.mono HR.out.base)⟩, KB.out, KV.out⟩
    ·generalize g 16 = y16 at hL ⊢
     obtain ⟨H16, _⟩ := hL
     have K16 := hid H16
     have HR := hid hR
     clear hR H16
     obtain ⟨bn', bd', dn', dd', rfl, g2, g3, g4, g5⟩ := K16.out.ex
     have HRow := hid (Row1.alloc g2 g3 g4 g5 37)
     have HBa := hid ((Below.refl W.heap.size W).alloc (Nat.le_refl _) (ratO s1 bn' dn' bd' dd' 37))
     clear g4 g5 K16
     go_wp2
     exact ⟨_, rfl, ⟨Nat.le_trans HR.out.base HBa.out.size, HR.out.be.trans (HBa.out.mono HR.out.base)⟩, HBa.out, HRow.out⟩
   ·intro ops g W hR hL
    have hB := hR.base
    have J0 := hL.1.1.1.1.1.1.1.1.1.1.1.1.1.1.1.1.1.2
    have J17 := hL.2
    simp only [GR, List.getElem?_cons_zero, List.getElem?_cons_succ] at J0 J17
    obtain ⟨t0, t1, t2, x0, x1, x2, y0, y1, y2⟩ := HCe.out W hR.be
    clear hL
    simp only [List.take_succ_cons, List.take_zero, List.drop_succ_cons, List.drop_zero]
    simp [fillFrom, Act.put]
    generalize g 0 = y0 at J0 ⊢
    obtain rfl := J0
    generalize g 17 = y17 at J17 ⊢
    have HR := hid hR
    clear hR
    have HO := hid (HOut.out.below HR.out.be)
    have HJ := hid J17
    clear J17
    go_wp2_with (at_builtin; refine wpList_appR rfl (.tmp 21) (.tmp 38) 26 rfl Wx.heap.size Tryz.underlying26 Tryz.infoRat (.slice b0 k k0) k _ HLn.out rfl HO.out.own y17 s1 HJ.out rfl (by omega) HO.out.bl.size ?_; intro b3 k3 w3 hown hk3 hg hbe)
    have HOut3 := hid (show OutI Wx w3 (.slice b3 (k + 1) k3) ((mixK tq aq bq' (k + 1)).map ratL) from ⟨by rw [HStep.out]; exact hown, HO.out.bl.trans hbe⟩)
    clear hown hg hbe
    go_wp2
    go_roundw
    case rel => exact ⟨k + 1, b3, k3, hlt, rfl, by go_num, HOut3.out⟩
    case measure => simp [intOf]; omega
  ·obtain rfl : k = n := by omega
   go_wp2
   have hNP : RowRet w ((mixK tq aq bq' k).map ratL) (.returned (.slice b0 k k0)) wr := HOut.out.ret (mixK_len tq aq bq' k) (by omega) HB.out
   exact bodyPost_ret (v := .slice b0 k k0) (by simp [results, Tryz.results18, go_sem]) rfl hNP
end Go.Proofs.YtoppijdedkdjeaaGreat

/-
  Contracts of the functions that the statement reaches: EvC, EvP, EvQ, EvH, EvJ, EvK, EvD, EvE, EvF, EvG, EvL, LwA, EvR, EvU, EvT.
-/
import Derived.Test.YtoppijdedkdjeaaGreatF24
import Derived.Test.YtoppijdedkdjeaaGreatF26
set_option linter.unusedVariables false
set_option linter.unusedSimpArgs false
set_option linter.constructorNameAsVariable false
set_option linter.deprecated false
set_option maxRecDepth 100000
set_option maxHeartbeats 3200000
namespace Go.Proofs.YtoppijdedkdjeaaGreat
open Go.RowKit
open Go.Lib (hid)
def iotaZ (n : Nat) : List Int := (List.range n).map fun k : Nat => (k : Int)
theorem iotaZ_len (n : Nat) : (iotaZ n).length = n := by simp [iotaZ]
theorem iotaZ_at {n k : Nat} (h : k < n) : (iotaZ n).getD k 0 = (k : Int) := by
 rw [List.getD_eq_getElem?_getD, iotaZ, List.getElem?_map, List.getElem?_range h]; rfl
def partL {α : Type} (l : List α) (lo n : Nat) : List α := (l.drop lo).take n
theorem partL_len {α : Type} {l : List α} {lo n : Nat} (h : lo + n <= l.length) : (partL l lo n).length = n := by simp [partL]; omega
theorem partL_map {α β : Type} (f : α -> β) (l : List α) (lo n : Nat) : partL (l.map f) lo n = (partL l lo n).map f := by simp [partL, List.map_drop, List.map_take]
theorem partL_mem {α : Type} {l : List α} {lo n : Nat} {x : α} (h : x ∈ partL l lo n) : x ∈ l := List.mem_of_mem_drop (List.mem_of_mem_take h)
theorem partL_at {α : Type} {l : List α} {lo n j : Nat} (hj : j < n) : (partL l lo n)[j]? = l[lo + j]? := by
 unfold partL
 rw [List.getElem?_take, if_pos hj, List.getElem?_drop]
def denseAt (bs ws x : List Rat) (r : Nat) : Rat := sumQ (bs.getD r 0) (partL ws (r * x.length) x.length) 0 (iotaZ x.length) x
def denseQ (R : Nat) (bs ws x : List Rat) : List Rat := (List.range R).map (denseAt bs ws x)
def convAt (bs ws : List Rat) (n : Nat) (win : List (List Int)) (x : List Rat) (o i : Nat) : Rat := sumQ (bs.getD o 0) (partL ws (o * n) n) 0 (win.getD i []) x
def convQ (O : Nat) (bs ws : List Rat) (n : Nat) (win : List (List Int)) (x : List Rat) : List Rat := (List.range O).flatMap fun o => (List.range win.length).map (convAt bs ws n win x o)
def poolAt (f : List Rat -> Rat) (n : Nat) (win : List (List Int)) (x : List Rat) (ch i : Nat) : Rat := f (valsQ (partL (win.getD i []) (ch * n) n) x)
def poolQ (f : List Rat -> Rat) (C n : Nat) (win : List (List Int)) (x : List Rat) : List Rat := (List.range C).flatMap fun ch => (List.range win.length).map (poolAt f n win x ch)
def reluQ (x : List Rat) : List Rat := x.map fun q => maxQ q 0
def plusQ (x y : List Rat) : List Rat := (List.range x.length).map fun k => x.getD k 0 + y.getD k 0
theorem RatsAt.sub {w : World} {b off : Nat} {l : List RatL} (h : RatsAt w (some ⟨b, off, none⟩) l) {lo n : Nat} (hn : lo + n <= l.length) : RatsAt w (some ⟨b, off + lo * 3, none⟩) (partL l lo n) := by
 have hlen : (partL l lo n).length = n := partL_len hn
 refine ⟨by have := h.len; omega, ?_⟩
 rcases h.row with rfl | ⟨b', off', hb, hs, hc⟩
 ·exact .inl (by simp [partL])
 ·cases hb
  refine .inr ⟨b, off + lo * 3, rfl, hs, fun j d hj => ?_⟩
  have hj' : j < n := by have := (List.getElem?_eq_some_iff.1 hj).1; omega
  rw [partL_at hj'] at hj
  have := hc (lo + j) d hj
  rw [Nat.add_mul, <- Nat.add_assoc] at this
  exact this
def RowRet (w : World) (L : List RatL) (e : Ending) (w' : World) : Prop := ∃ a c, e = .returned (.slice a L.length c) /\ L.length <= c /\ RatsAt w' a L /\ Below w.heap.size w w'
structure OutI (W wr : World) (v : Value) (L : List RatL) : Prop where
 own : OwnR wr W.heap.size v L
 bl : Below W.heap.size W wr
theorem OutI.start (W : World) : OutI W W (.slice none 0 0) [] := ⟨OwnR.nil _ _, Below.refl _ _⟩
theorem OutI.below {W wr w' : World} {v : Value} {L : List RatL} (h : OutI W wr v L) (hb : Below wr.heap.size wr w') : OutI W w' v L := ⟨h.own.below hb, h.bl.trans (hb.mono h.bl.size)⟩
theorem OutI.ret {w W wr : World} {a : Option Addr} {n c : Nat} {L : List RatL} (h : OutI W wr (.slice a n c) L) (hn : L.length = n) (hl : n <= 9223372036854775807) (hb : Below w.heap.size w W) : RowRet w L (.returned (.slice a n c)) wr := by
 obtain ⟨a', c', e, hc⟩ := h.own.form
 cases e
 exact ⟨a, c, rfl, hc, h.own.rats hl, hb.trans (h.bl.mono hb.size)⟩
def flatQ (f : Nat -> Nat -> Rat) (T k i : Nat) : List Rat := ((List.range k).flatMap fun o => (List.range T).map (f o)) ++ (List.range i).map (f k)
theorem flatQ_len (f : Nat -> Nat -> Rat) (T k i : Nat) : ((flatQ f T k i).map ratL).length = k * T + i := by
 have : ∀ k, ((List.range k).flatMap fun o => (List.range T).map (f o)).length = k * T := by
  intro k
  induction k with
  | zero => simp
  | succ k ih => rw [List.range_succ, List.flatMap_append, List.length_append, ih, Nat.succ_mul]; simp
 simp only [flatQ, List.length_map, List.length_append, this, List.length_range]
theorem flatQ_succ (f : Nat -> Nat -> Rat) (T k i : Nat) : (flatQ f T k (i + 1)).map ratL = (flatQ f T k i).map ratL ++ [ratL (f k i)] := by simp [flatQ, List.range_succ]
theorem flatQ_next (f : Nat -> Nat -> Rat) (T k : Nat) : flatQ f T k T = flatQ f T (k + 1) 0 := by simp [flatQ, List.range_succ]
theorem convQ_flat (O : Nat) (bs ws : List Rat) (n : Nat) (win : List (List Int)) (x : List Rat) : convQ O bs ws n win x = flatQ (convAt bs ws n win x) win.length O 0 := by simp [flatQ, convQ]
theorem poolQ_flat (g : List Rat -> Rat) (C n : Nat) (win : List (List Int)) (x : List Rat) : poolQ g C n win x = flatQ (poolAt g n win x) win.length C 0 := by simp [flatQ, poolQ]
theorem ratL_zeroE : ratL 0 = ⟨false, [], []⟩ := by simp [ratL, limbs_zero]
theorem ratLe_zero : RatLe (ratL 0) 524285 := by rw [ratL_zeroE]; exact ⟨Nat.zero_le _, Nat.zero_le _⟩
structure Bd (D B : Nat) (q : Rat) : Prop where
 pos : 0 < D
 ex : ∃ n : Int, q = mkRat n D /\ n.natAbs <= B * D
theorem Bd.zero {D B : Nat} (h : 0 < D) : Bd D B 0 := ⟨h, 0, by simp [Rat.zero_mkRat], by simp⟩
theorem Bd.mono {D B B' : Nat} {q : Rat} (h : Bd D B q) (hb : B <= B') : Bd D B' q := by
 obtain ⟨n, e, hn⟩ := h.ex
 exact ⟨h.pos, n, e, Nat.le_trans hn (Nat.mul_le_mul_right _ hb)⟩
theorem Bd.bump {D B : Nat} {q : Rat} (h : Bd D B q) {k : Nat} (hk : 0 < k) : Bd (D * k) B q := by
 obtain ⟨n, e, hn⟩ := h.ex
 refine ⟨Nat.mul_pos h.pos hk, n * k, ?_, ?_⟩
 ·rw [e, Rat.mkRat_mul_right (by omega)]
 ·rw [Int.natAbs_mul, Int.natAbs_natCast, <- Nat.mul_assoc]; exact Nat.mul_le_mul_right _ hn
theorem Bd.add {D B C : Nat} {p q : Rat} (h : Bd D B p) (g : Bd D C q) : Bd D (B + C) (p + q) := by
 obtain ⟨n, e, hn⟩ := h.ex
 obtain ⟨m, e', hm⟩ := g.ex
 have hD := h.pos
 refine ⟨hD, n + m, ?_, ?_⟩
 ·rw [e, e', Rat.mkRat_add_mkRat _ _ (by omega) (by omega), <- Int.add_mul, Rat.mkRat_mul_right (by omega)]
 ·have := Int.natAbs_add_le n m
  rw [Nat.add_mul]
  omega
theorem Bd.mul {D E B C : Nat} {p q : Rat} (h : Bd D B p) (g : Bd E C q) : Bd (D * E) (B * C) (p * q) := by
 obtain ⟨n, e, hn⟩ := h.ex
 obtain ⟨m, e', hm⟩ := g.ex
 refine ⟨Nat.mul_pos h.pos g.pos, n * m, ?_, ?_⟩
 ·rw [e, e', Rat.mkRat_mul_mkRat]
 ·rw [Int.natAbs_mul]
  have := Nat.mul_le_mul hn hm
  rw [show B * C * (D * E) = B * D * (C * E) by ac_rfl]
  exact this
theorem Bd.neg {D B : Nat} {q : Rat} (h : Bd D B q) : Bd D B (-q) := by
 obtain ⟨n, e, hn⟩ := h.ex
 exact ⟨h.pos, -n, by rw [e, Rat.neg_mkRat], by rw [Int.natAbs_neg]; exact hn⟩
theorem Bd.sub {D B C : Nat} {p q : Rat} (h : Bd D B p) (g : Bd D C q) : Bd D (B + C) (p - q) := by
 rw [Rat.sub_eq_add_neg]; exact h.add g.neg
theorem Bd.maxQ {D B : Nat} {p q : Rat} (h : Bd D B p) (g : Bd D B q) : Bd D B (maxQ p q) := by
 unfold Go.Proofs.YtoppijdedkdjeaaGreat.maxQ
 split <;> assumption
theorem Bd.le {D B k : Nat} {q : Rat} (h : Bd D B q) (hk : B * D + D < 4294967296 ^ k) : RatLe (ratL q) k := by
 obtain ⟨n, e, hn⟩ := h.ex
 have hD := h.pos
 have h1 : q.num.natAbs <= n.natAbs := by
  rw [e, Rat.num_mkRat]
  split
  ·simp
  ·rw [Int.natAbs_ediv_of_dvd]
   ·exact Nat.div_le_self _ _
   ·exact Int.ofNat_dvd_left.2 (Nat.gcd_dvd_right _ _)
 have h2 : q.den <= D := by
  rw [e, Rat.den_mkRat]
  split
  ·omega
  ·exact Nat.div_le_self _ _
 constructor
 ·exact limbs_len_le (by omega)
 ·show (if q.den = 1 then [] else limbs q.den).length <= k
  split
  ·exact Nat.zero_le _
  ·exact limbs_len_le (by omega)
def BdL (D B : Nat) (l : List Rat) : Prop := ∀ q ∈ l, Bd D B q
theorem BdL.mono {D B B' : Nat} {l : List Rat} (h : BdL D B l) (hb : B <= B') : BdL D B' l := fun q hq => (h q hq).mono hb
theorem BdL.bump {D B : Nat} {l : List Rat} (h : BdL D B l) {k : Nat} (hk : 0 < k) : BdL (D * k) B l := fun q hq => (h q hq).bump hk
theorem BdL.at {D B : Nat} {l : List Rat} (h : BdL D B l) (hD : 0 < D) (k : Nat) : Bd D B (l.getD k 0) := by
 rw [List.getD_eq_getElem?_getD]
 by_cases hk : k < l.length
 ·rw [List.getElem?_eq_getElem hk]; exact h _ (List.getElem_mem _)
 ·rw [List.getElem?_eq_none (by omega)]; exact Bd.zero hD
theorem BdL.part {D B : Nat} {l : List Rat} (h : BdL D B l) (lo n : Nat) : BdL D B (partL l lo n) := fun q hq => h q (partL_mem hq)
theorem BdL.nil (D B : Nat) : BdL D B [] := fun q hq => by cases hq
theorem Bd.term {W D C B : Nat} {ws x : List Rat} (hw : BdL W C ws) (hx : BdL D B x) (hW : 0 < W) (hD : 0 < D) (off : Nat) (ix : List Int) (k : Nat) : Bd (W * D) (C * B) (termQ ws off ix x k) := by
 unfold termQ
 split
 ·exact (hw.at hW _).mul (hx.at hD _)
 ·exact Bd.zero (Nat.mul_pos hW hD)
theorem Bd.psum {W D C B : Nat} {b : Rat} {ws x : List Rat} (hb : Bd W C b) (hw : BdL W C ws) (hx : BdL D B x) (hD : 0 < D) (off : Nat) (ix : List Int) (k : Nat) : Bd (W * D) (C + k * (C * B)) (psum b ws off ix x k) := by
 induction k with
 | zero => rw [Nat.zero_mul, Nat.add_zero]; exact hb.bump hD
 | succ k ih =>
  show Bd _ _ (Go.Proofs.YtoppijdedkdjeaaGreat.psum b ws off ix x k + termQ ws off ix x k)
  rw [Nat.succ_mul, <- Nat.add_assoc]
  exact ih.add (Bd.term hw hx hb.pos hD off ix k)
theorem BdL.vals {D B : Nat} {x : List Rat} (h : BdL D B x) (hD : 0 < D) (ix : List Int) : BdL D B (valsQ ix x) := by
 intro q hq
 obtain ⟨i, _, rfl⟩ := List.mem_map.1 hq
 exact h.at hD _
theorem Bd.pmax {D B : Nat} {l : List Rat} (h : BdL D B l) (hD : 0 < D) (k : Nat) : Bd D B (pmax l k) := by
 induction k with
 | zero => exact h.at hD 0
 | succ k ih => exact ih.maxQ (h.at hD _)
theorem Bd.padd {D B : Nat} {l : List Rat} (h : BdL D B l) (hD : 0 < D) (k : Nat) : Bd D ((k + 1) * B) (padd l k) := by
 induction k with
 | zero => rw [Nat.zero_add, Nat.one_mul]; exact h.at hD 0
 | succ k ih =>
  show Bd _ _ (Go.Proofs.YtoppijdedkdjeaaGreat.padd l k + l.getD (k + 1) 0)
  rw [Nat.succ_mul]
  exact ih.add (h.at hD _)
theorem Bd.divN {D B n : Nat} {q : Rat} (h : Bd D (n * B) q) (hn : 0 < n) : Bd (D * n) B (q / ((n : Int) : Rat)) := by
 obtain ⟨m, e, hm⟩ := h.ex
 have hD := h.pos
 refine ⟨Nat.mul_pos hD hn, m, ?_, ?_⟩
 ·have e1 : ((n : Int) : Rat) ≠ 0 := by
   intro h0
   have : (n : Int) = 0 := by exact_mod_cast h0
   omega
  have e2 : mkRat m D = mkRat m (D * n) * ((n : Int) : Rat) := by
   rw [show ((n : Int) : Rat) = mkRat (n : Int) 1 by simp [Rat.mkRat_one], Rat.mkRat_mul_mkRat, Nat.mul_one, Rat.mkRat_mul_right (by omega)]
  rw [e, e2, Rat.mul_div_cancel e1]
 ·rw [show B * (D * n) = n * B * D by ac_rfl]; exact hm
theorem Bd.avg {D B : Nat} {l : List Rat} (h : BdL D B l) (hD : 0 < D) (hl : 1 <= l.length) : Bd (D * l.length) B (avgL l) := by
 unfold avgL
 refine Bd.divN ?_ hl
 have := Bd.padd h hD (l.length - 1)
 rw [show l.length - 1 + 1 = l.length by omega] at this
 exact this
theorem BdL.dense {W D C B : Nat} {bs ws x : List Rat} (hW : 0 < W) (hD : 0 < D) (hb : BdL W C bs) (hw : BdL W C ws) (hx : BdL D B x) (R : Nat) : BdL (W * D) (C + x.length * (C * B)) (denseQ R bs ws x) := by
 intro q hq
 obtain ⟨r, _, rfl⟩ := List.mem_map.1 hq
 unfold denseAt sumQ
 have := Bd.psum (hb.at hW r) (hw.part (r * x.length) x.length) hx hD 0 (iotaZ x.length) (iotaZ x.length).length
 rw [iotaZ_len] at this ⊢
 exact this
theorem BdL.conv {W D C B n : Nat} {bs ws x : List Rat} {win : List (List Int)} (hW : 0 < W) (hD : 0 < D) (hb : BdL W C bs) (hw : BdL W C ws) (hx : BdL D B x) (hlen : ∀ ix ∈ win, ix.length = n) (O : Nat) : BdL (W * D) (C + n * (C * B)) (convQ O bs ws n win x) := by
 intro q hq
 obtain ⟨o, _, hq⟩ := List.mem_flatMap.1 hq
 obtain ⟨i, hi, rfl⟩ := List.mem_map.1 hq
 rw [List.mem_range] at hi
 have hm : win.getD i [] ∈ win := by rw [List.getD_eq_getElem?_getD, List.getElem?_eq_getElem hi]; exact List.getElem_mem _
 unfold convAt sumQ
 have := Bd.psum (hb.at hW o) (hw.part (o * n) n) hx hD 0 (win.getD i []) (win.getD i []).length
 rw [hlen _ hm] at this ⊢
 exact this
theorem BdL.poolM {D B n : Nat} {x : List Rat} {win : List (List Int)} (hD : 0 < D) (hx : BdL D B x) (C : Nat) : BdL D B (poolQ maxL C n win x) := by
 intro q hq
 obtain ⟨o, _, hq⟩ := List.mem_flatMap.1 hq
 obtain ⟨i, hi, rfl⟩ := List.mem_map.1 hq
 exact Bd.pmax (hx.vals hD _) hD _
theorem BdL.poolA {D B n C : Nat} {x : List Rat} {win : List (List Int)} (hD : 0 < D) (hx : BdL D B x) (hn : 1 <= n) (hlen : ∀ ix ∈ win, ix.length = C * n) : BdL (D * n) B (poolQ avgL C n win x) := by
 intro q hq
 obtain ⟨o, ho, hq⟩ := List.mem_flatMap.1 hq
 obtain ⟨i, hi, rfl⟩ := List.mem_map.1 hq
 rw [List.mem_range] at hi ho
 have hm : win.getD i [] ∈ win := by rw [List.getD_eq_getElem?_getD, List.getElem?_eq_getElem hi]; exact List.getElem_mem _
 have hl : (valsQ (partL (win.getD i []) (o * n) n) x).length = n := by
  rw [valsQ_len]
  refine partL_len ?_
  rw [hlen _ hm, <- Nat.succ_mul]
  exact Nat.mul_le_mul_right _ ho
 unfold poolAt
 have := Bd.avg (hx.vals hD (partL (win.getD i []) (o * n) n)) hD (by omega)
 rw [hl] at this
 exact this
theorem BdL.relu {D B : Nat} {x : List Rat} (hD : 0 < D) (hx : BdL D B x) : BdL D B (reluQ x) := by
 intro q hq
 obtain ⟨p, hp, rfl⟩ := List.mem_map.1 hq
 exact (hx p hp).maxQ (Bd.zero hD)
theorem BdL.plus {D B C : Nat} {x y : List Rat} (hD : 0 < D) (hx : BdL D B x) (hy : BdL D C y) : BdL D (B + C) (plusQ x y) := by
 intro q hq
 obtain ⟨k, _, rfl⟩ := List.mem_map.1 hq
 exact (hx.at hD k).add (hy.at hD k)
theorem BdL.small {C : Nat} : ∀ (l : List Rat), (∀ q ∈ l, q.den <= 4294967296 /\ q.num.natAbs <= C) -> ∃ W, 0 < W /\ W <= 4294967296 ^ l.length /\ BdL W C l
 | [], _ => ⟨1, by omega, by simp, BdL.nil _ _⟩
 | q :: r, h => by
  obtain ⟨W, h1, h2, h3⟩ := BdL.small r (fun p hp => h p (by simp [hp]))
  obtain ⟨g1, g2⟩ := h q (by simp)
  have hq : Bd q.den C q := ⟨q.den_pos, q.num, (Rat.mkRat_self q).symm, Nat.le_trans g2 (Nat.le_mul_of_pos_right _ q.den_pos)⟩
  refine ⟨W * q.den, Nat.mul_pos h1 q.den_pos, ?_, ?_⟩
  ·rw [List.length_cons, Nat.pow_succ]; exact Nat.mul_le_mul h2 g1
  ·intro p hp
   rcases List.mem_cons.1 hp with rfl | hp
   ·rw [Nat.mul_comm]; exact hq.bump h1
   ·exact (h3 p hp).bump q.den_pos
theorem Win.mem_one {q : Win} {ix : List Int} (h : ix ∈ q.all) : ∃ r c, r < q.R /\ c < q.Q /\ ix = q.one r c := by
 simp only [Win.all, Win.rowOf, List.mem_flatMap, List.mem_map, List.mem_range] at h
 obtain ⟨r, hr, c, hc, rfl⟩ := h
 exact ⟨r, c, hr, hc, rfl⟩
theorem Win.mem_at {q : Win} {r c : Nat} {i : Int} (h : i ∈ q.one r c) : ∃ ch a b, ch < q.C /\ a < q.kh /\ b < q.kw /\ i = q.at r c ch a b := by
 simp only [Win.one, Win.chan, Win.line, List.mem_flatMap, List.mem_map, List.mem_range] at h
 obtain ⟨ch, hch, a, ha, b, hb, rfl⟩ := h
 exact ⟨ch, a, b, hch, ha, hb, rfl⟩
theorem Win.all_one_len' {q : Win} : ∀ ix ∈ q.all, ix.length = q.C * (q.kh * q.kw) := by
 intro ix h
 obtain ⟨r, c, _, _, rfl⟩ := q.mem_one h
 exact q.one_len r c
theorem Win.Ok.all_lt {q : Win} (h : q.Ok) : ∀ ix ∈ q.all, ∀ i ∈ ix, i < ((q.C * q.H * q.W : Nat) : Int) := by
 intro ix hx i hi
 obtain ⟨r, c, _, _, rfl⟩ := q.mem_one hx
 obtain ⟨ch, a, b, hch, _, _, rfl⟩ := q.mem_at hi
 have := (h.at_bd (r := r) (c := c) (i := a) (k := b) hch).2
 simpa using this
theorem Win.Ok.all_nn {q : Win} (h : q.Ok) (hp : q.p = 0) : ∀ ix ∈ q.all, ∀ i ∈ ix, 0 <= i := by
 intro ix hx i hi
 obtain ⟨r, c, hr, hc, rfl⟩ := q.mem_one hx
 obtain ⟨ch, a, b, hch, ha, hb, rfl⟩ := q.mem_at hi
 rw [(h.bare hp hr hc (ch := ch) ha hb).1]
 have r0 : (0 : Int) <= (r : Int) * q.s := Int.mul_nonneg (by omega) (by omega)
 have c0 : (0 : Int) <= (c : Int) * q.s := Int.mul_nonneg (by omega) (by omega)
 have h0 : (0 : Int) <= (ch : Int) * q.H := Int.mul_nonneg (by omega) (by omega)
 have h1 : (0 : Int) <= ((ch : Int) * q.H + ((r : Int) * q.s + a)) * q.W := Int.mul_nonneg (by omega) (by omega)
 omega
inductive FitL (l : LayL) (s : List Int) : Prop
 | dense (R : Nat) (hk : l.kind = 1) (ho : l.out = (R : Int)) (h1 : 1 <= R) (h2 : R <= 16384) (hb : l.bias.length = R) (hw : l.weights.length = R * (sizeL s).toNat)
 | conv (q : Win) (O : Nat) (hk : l.kind = 2) (hq : q.Ok) (ht : q.total <= 262144) (hs : s = [(q.C : Int), (q.H : Int), (q.W : Int)]) (e1 : l.kh = (q.kh : Int)) (e2 : l.kw = (q.kw : Int)) (e3 : l.stride = (q.s : Int)) (e4 : l.pad = (q.p : Int))
   (ho : l.out = (O : Int)) (h1 : 1 <= O) (hb : l.bias.length = O) (hw : l.weights.length = O * (q.C * q.kh * q.kw)) (hwl : windowsL s l.kh l.kw l.stride l.pad = (q.all, (q.R : Int), (q.Q : Int), 0)) (hz : O * (q.R * q.Q) <= 16384)
 | pool (q : Win) (hk : l.kind = 3 ∨ l.kind = 4) (hq : q.Ok) (ht : q.total <= 262144) (hs : s = [(q.C : Int), (q.H : Int), (q.W : Int)]) (e1 : l.kh = (q.kh : Int)) (e2 : l.kw = (q.kw : Int)) (e3 : l.stride = (q.s : Int)) (e4 : l.pad = 0) (hp : q.p = 0) (hwl : windowsL s l.kh l.kw l.stride 0 = (q.all, (q.R : Int), (q.Q : Int), 0))
   (hz : q.C * (q.R * q.Q) <= 16384)
 | keep (hk : l.kind = 5 ∨ l.kind = 6)
 | add (hk : l.kind = 7)
def wq (l : LayL) : List Rat := l.weights.map ratOf
def bq (l : LayL) : List Rat := l.bias.map ratOf
def layQ (l : LayL) (s : List Int) (x y : List Rat) : List Rat :=
 if l.kind = 1 then denseQ l.out.toNat (bq l) (wq l) x
 else if l.kind = 2 then convQ l.out.toNat (bq l) (wq l) ((s.getD 0 0).toNat * l.kh.toNat * l.kw.toNat) (windowsL s l.kh l.kw l.stride l.pad).1 x
 else if l.kind = 3 then poolQ maxL (s.getD 0 0).toNat (l.kh.toNat * l.kw.toNat) (windowsL s l.kh l.kw l.stride 0).1 x
 else if l.kind = 4 then poolQ avgL (s.getD 0 0).toNat (l.kh.toNat * l.kw.toNat) (windowsL s l.kh l.kw l.stride 0).1 x
 else if l.kind = 5 then reluQ x
 else if l.kind = 7 then plusQ x y
 else x
theorem winFit {s : List Int} {kh kw st p : Int} (h : (windowsL s kh kw st p).2.2.2 = 0) : ∃ q : Win, q.Ok /\ q.total <= 262144 /\ s = [(q.C : Int), (q.H : Int), (q.W : Int)] /\ kh = q.kh /\ kw = q.kw /\ st = q.s /\ p = q.p /\ windowsL s kh kw st p = (q.all, (q.R : Int), (q.Q : Int), 0) := by
 cases h1 : argBad s kh kw st p with
 | true => rw [windowsL_arg h1] at h; simp at h
 | false =>
  cases h2 : shapeBad s kh kw p with
  | true => rw [windowsL_shape h1 h2] at h; simp at h
  | false =>
   by_cases h3 : 262144 < (winOf s kh kw st p).total
   ·rw [windowsL_many h1 h2 h3] at h; simp at h
   ·obtain ⟨q, hq, hw, e0, e1, e2, e3, e4⟩ := winOf_ok h1 h2
    rw [hw] at h3
    refine ⟨q, hq, by omega, e0, e1, e2, e3, e4, ?_⟩
    rw [windowsL_ok h1 h2 (by rw [hw]; exact h3), hw]
theorem validL_three {a b c : Nat} (h : validL [(a : Int), (b : Int), (c : Int)] = true) : a * (b * c) <= 16384 := by
 have h1 := (validL_size h).2
 rw [sizeL, if_pos h] at h1
 simp only [prodFrom, Int.one_mul] at h1
 have : (((a * b * c : Nat)) : Int) <= 16384 := by simpa using h1
 rw [<- Nat.mul_assoc]
 omega
theorem fit_of {input : List Int} {S : List (List Int)} {l : LayL} (h : (outSL input S l).2 = 0) : FitL l (currL input S) /\ numsB l = true /\
  (l.kind = 7 -> -1 <= l.frm /\ l.frm < S.length /\ (if 0 <= l.frm then S.getD l.frm.toNat [] else input) = currL input S) := by
 rcases outSL_cases input S l with ⟨h1, _, _⟩ | ⟨hc, ⟨h1, _, _⟩ | ⟨_, _, hr, hv⟩⟩
 ·omega
 ·omega
 ·simp only [Bool.and_eq_true] at hc
  obtain ⟨⟨_, _, hl⟩, _⟩ := hc
  unfold layOK at hl
  rw [Bool.and_eq_true] at hl
  obtain ⟨hl, hn⟩ := hl
  unfold condL at hl
  unfold rawL at hr hv
  by_cases k1 : l.kind = 1
  ·rw [if_pos k1] at hl hr hv
   simp only [outB, wgtB, Bool.and_eq_true, decide_eq_true_eq] at hl hr
   obtain ⟨⟨o1, o2⟩, ⟨b1, b2, b3, b4⟩, _⟩ := hl
   refine ⟨.dense l.out.toNat k1 (by omega) (by omega) (by omega) (by omega) ?_, hn, fun h => by omega⟩
   have e : l.out = (l.out.toNat : Int) := by omega
   by_cases hs : 0 <= sizeL (currL input S)
   ·have e2 : sizeL (currL input S) = ((sizeL (currL input S)).toNat : Int) := by omega
    rw [e, e2] at hr
    have : ((l.weights.length : Nat) : Int) = ((l.out.toNat * (sizeL (currL input S)).toNat : Nat) : Int) := by rw [hr]; simp
    exact Int.ofNat_inj.1 this
   ·exfalso
    have : l.out * sizeL (currL input S) < 0 := Int.mul_neg_of_pos_of_neg (by omega) (by omega)
    omega
  rw [if_neg k1] at hl hr hv
  by_cases k2 : l.kind = 2
  ·rw [if_pos k2] at hl hr hv
   simp only [outB, wgtB, kerB, Bool.and_eq_true, decide_eq_true_eq] at hl hr
   obtain ⟨⟨o1, o2⟩, _, _, _, _, ⟨b1, _⟩, _⟩ := hl
   obtain ⟨hw0, hwe⟩ := hr
   obtain ⟨q, hq, ht, e0, e1, e2, e3, e4, hwl⟩ := winFit hw0
   unfold winsL at hv
   rw [hwl] at hv
   have eo : l.out = (l.out.toNat : Int) := by omega
   rw [eo] at hv
   refine ⟨.conv q l.out.toNat k2 hq ht e0 e1 e2 e3 e4 eo (by omega) (by omega) ?_ hwl (validL_three hv), hn, fun h => by omega⟩
   rw [e0, e1, e2, eo] at hwe
   have : ((l.weights.length : Nat) : Int) = ((l.out.toNat * (q.C * q.kh * q.kw) : Nat) : Int) := by
    rw [hwe]
    simp only [List.getD_cons_zero, Int.natCast_mul, Int.mul_assoc]
   omega
  rw [if_neg k2] at hl hr hv
  by_cases k3 : l.kind = 3 ∨ l.kind = 4
  ·rw [if_pos k3] at hl hr hv
   simp only [kerB, Bool.and_eq_true, decide_eq_true_eq] at hl hr
   obtain ⟨_, ⟨_, _, hp⟩, _⟩ := hl
   obtain ⟨q, hq, ht, e0, e1, e2, e3, e4, hwl⟩ := winFit hr
   unfold winsL at hv
   rw [hwl] at hv
   rw [e0] at hv
   exact ⟨.pool q k3 hq ht e0 e1 e2 e3 hp (by omega) (by rw [hp] at hwl; exact hwl) (validL_three hv), hn, fun h => by omega⟩
  rw [if_neg k3] at hl
  by_cases k5 : l.kind = 5 ∨ l.kind = 6
  ·exact ⟨.keep k5, hn, fun h => by omega⟩
  rw [if_neg k5] at hl
  by_cases k7 : l.kind = 7
  ·rw [if_pos k7] at hl
   simp only [Bool.and_eq_true, decide_eq_true_eq] at hl
   rw [if_neg k3, if_neg (by omega), if_pos k7] at hr
   exact ⟨.add k7, hn, fun _ => ⟨hl.1, hl.2.1, by simpa [sameL] using hr⟩⟩
  ·rw [if_neg k7] at hl
   cases hl
theorem flatQ_len' (f : Nat -> Nat -> Rat) (T k i : Nat) : (flatQ f T k i).length = k * T + i := by have := flatQ_len f T k i; rwa [List.length_map] at this
theorem layQ_len {input : List Int} {S : List (List Int)} {l : LayL} {x y : List Rat} (h : (outSL input S l).2 = 0) (hx : (x.length : Int) = sizeL (currL input S)) : ((layQ l (currL input S) x y).length : Int) = sizeL (outSL input S l).1 := by
 have hv := outSL_valid h
 rcases outSL_cases input S l with ⟨h1, _, _⟩ | ⟨_, ⟨h1, _, _⟩ | ⟨_, h2, _, _⟩⟩
 ·omega
 ·omega
 by_cases hk : 5 <= l.kind
 ·rw [outSL_keeps h hk, <- hx]
  unfold layQ
  rw [if_neg (by omega), if_neg (by omega), if_neg (by omega), if_neg (by omega)]
  split
  ·simp [reluQ]
  ·split
   ·simp [plusQ]
   ·rfl
 ·obtain ⟨hf, _, _⟩ := fit_of h
  rw [h2] at hv ⊢
  unfold rawL at hv ⊢
  cases hf with
  | dense R hk ho h1 h2 hb hw =>
   rw [if_pos hk] at hv ⊢
   unfold layQ
   rw [if_pos hk, sizeL, if_pos hv]
   simp only [prodFrom, Int.one_mul, denseQ, List.length_map, List.length_range]
   omega
  | conv q O hk hq ht hs e1 e2 e3 e4 ho h1 hb hw hwl hz =>
   rw [if_neg (by omega), if_pos hk] at hv ⊢
   unfold winsL at hv ⊢
   rw [hwl] at hv ⊢
   unfold layQ
   rw [if_neg (by omega), if_pos hk, hwl, sizeL, if_pos hv, convQ_flat]
   rw [flatQ_len', q.all_len, ho]
   simp only [prodFrom, Int.one_mul]
   simp [Int.mul_assoc]
  | pool q hk hq ht hs e1 e2 e3 e4 hp hwl hz =>
   rw [if_neg (by omega), if_neg (by omega), if_pos hk] at hv ⊢
   unfold winsL at hv ⊢
   rw [e4, hwl] at hv ⊢
   have hC : (currL input S).getD 0 0 = (q.C : Int) := by rw [hs]; rfl
   have key : ∀ f : List Rat -> Rat, ((poolQ f ((currL input S).getD 0 0).toNat (l.kh.toNat * l.kw.toNat) q.all x).length : Int) = sizeL [(currL input S).getD 0 0, (q.R : Int), (q.Q : Int)] := by
    intro f
    rw [sizeL, if_pos hv, poolQ_flat]
    rw [flatQ_len', q.all_len, hC]
    simp only [prodFrom, Int.one_mul]
    simp [Int.mul_assoc]
   unfold layQ
   rw [if_neg (by omega), if_neg (by omega), hwl]
   rcases hk with hk | hk
   ·rw [if_pos hk]; exact key _
   ·rw [if_neg (by omega), if_pos hk]; exact key _
  | keep hk => omega
  | add hk => omega
def currQ (x : List Rat) (Y : List (List Rat)) : List Rat := Y.getLast?.getD x
def fromQ (x : List Rat) (Y : List (List Rat)) (f : Int) : List Rat := if 0 <= f then Y.getD f.toNat [] else x
def traceFrom (input : List Int) (x : List Rat) : List (List Int) -> List (List Rat) -> List LayL -> List (List Rat)
 | _, Y, [] => Y
 | S, Y, l :: r => traceFrom input x (S ++ [(outSL input S l).1]) (Y ++ [layQ l (currL input S) (currQ x Y) (fromQ x Y l.frm)]) r
def traceQ (m : ModL) (x : List Rat) : List (List Rat) := traceFrom m.input x [] [] m.layers
def WQ : Nat := 4294967296 ^ 240 * 4294967296 ^ 240
theorem one_le_WQ : 1 <= WQ := Nat.mul_pos (Nat.one_le_pow _ _ (by omega)) (Nat.one_le_pow _ _ (by omega))
theorem pow_wide (M a n : Nat) (hM : 1 <= M) (hn : n <= a + a) : M ^ n <= M ^ a * M ^ a := by rw [<- Nat.pow_add]; exact Nat.pow_le_pow_right hM hn
theorem le_WQ {W n : Nat} (h : W <= 4294967296 ^ n) (hn : n <= 480) : W <= WQ := Nat.le_trans h (pow_wide 4294967296 240 n (by omega) hn)
theorem pow_join (M a b c : Nat) (h : a + b = c) : M ^ a * M ^ b = M ^ c := by rw [<- Nat.pow_add, h]
theorem WQ_pow : ∃ p : Nat, p = 480 /\ WQ = 4294967296 ^ p := ⟨480, rfl, pow_join 4294967296 240 240 480 rfl⟩
structure SmallL (l : LayL) : Prop where
 num : ∀ q ∈ wq l ++ bq l, q.den <= 4294967296 /\ q.num.natAbs <= 18446744073709551616
 len : (wq l ++ bq l).length <= 480
theorem grow_le {n B : Nat} (hn : n <= 262144) (hB : 1 <= B) : 18446744073709551616 + n * (18446744073709551616 * B) <= 9671406556917033397649408 * B := by
 have : n * (18446744073709551616 * B) <= 262144 * (18446744073709551616 * B) := Nat.mul_le_mul_right _ hn
 omega
theorem layQ_bd {l : LayL} {s : List Int} {x y : List Rat} {D B : Nat} (hf : FitL l s) (hx : (x.length : Int) = sizeL s) (hxl : x.length <= 16384) (hxB : BdL D B x) (hyB : BdL D B y) (hD : 0 < D) (hB : 1 <= B) (hs : SmallL l) :
  ∃ k, 0 < k /\ k <= WQ /\ BdL (D * k) (9671406556917033397649408 * B) (layQ l s x y) := by
 have pp : (1 : Nat) <= WQ := one_le_WQ
 have stay : ∀ {z : List Rat}, BdL D B z -> BdL (D * 1) (9671406556917033397649408 * B) z := fun h => by rw [Nat.mul_one]; exact h.mono (by omega)
 unfold layQ
 cases hf with
 | dense R hk ho h1 h2 hb hw =>
  obtain ⟨W, w1, w2, w3⟩ := BdL.small _ hs.num
  rw [if_pos hk]
  refine ⟨W, w1, le_WQ w2 hs.len, ?_⟩
  rw [Nat.mul_comm D W]
  exact (BdL.dense w1 hD (fun q hq => w3 q (List.mem_append_right _ hq)) (fun q hq => w3 q (List.mem_append_left _ hq)) hxB _).mono (grow_le (by omega) hB)
 | conv q O hk hq ht hs' e1 e2 e3 e4 ho h1 hb hw hwl hz =>
  obtain ⟨W, w1, w2, w3⟩ := BdL.small _ hs.num
  rw [if_neg (by omega), if_pos hk, hwl]
  refine ⟨W, w1, le_WQ w2 hs.len, ?_⟩
  rw [Nat.mul_comm D W]
  have hC : s.getD 0 0 = (q.C : Int) := by rw [hs']; rfl
  have hn : (s.getD 0 0).toNat * l.kh.toNat * l.kw.toNat = q.C * (q.kh * q.kw) := by rw [hC, e1, e2, Nat.mul_assoc]; rfl
  rw [hn]
  have hb := Win.len_bd hq ht
  rw [q.one_len] at hb
  exact (BdL.conv w1 hD (fun q hq => w3 q (List.mem_append_right _ hq)) (fun q hq => w3 q (List.mem_append_left _ hq)) hxB q.all_one_len' _).mono (grow_le hb.2.1 hB)
 | pool q hk hq ht hs' e1 e2 e3 e4 hp hwl hz =>
  rw [if_neg (by omega), if_neg (by omega), hwl]
  have hC : s.getD 0 0 = (q.C : Int) := by rw [hs']; rfl
  have hn : l.kh.toNat * l.kw.toNat = q.kh * q.kw := by rw [e1, e2]; rfl
  rcases hk with hk | hk
  ·rw [if_pos hk]
   exact ⟨1, by omega, pp, stay (BdL.poolM hD hxB _)⟩
  ·rw [if_neg (by omega), if_pos hk, hn, hC]
   have hb := Win.len_bd hq ht
   rw [q.one_len] at hb
   have hpos : 1 <= q.kh * q.kw := Nat.mul_pos hq.kh1 hq.kw1
   refine ⟨q.kh * q.kw, hpos, ?_, (BdL.poolA hD hxB hpos q.all_one_len').mono (by omega)⟩
   have h1 : q.kh * q.kw <= 262144 := Nat.le_trans (Nat.le_mul_of_pos_left _ hq.c1) hb.2.1
   exact le_WQ (n := 1) (Nat.le_trans h1 (by omega)) (by omega)
 | keep hk =>
  rw [if_neg (by omega), if_neg (by omega), if_neg (by omega), if_neg (by omega)]
  rcases hk with hk | hk
  ·rw [if_pos hk]; exact ⟨1, by omega, pp, stay (BdL.relu hD hxB)⟩
  ·rw [if_neg (by omega), if_neg (by omega)]; exact ⟨1, by omega, pp, stay hxB⟩
 | add hk =>
  rw [if_neg (by omega), if_neg (by omega), if_neg (by omega), if_neg (by omega), if_neg (by omega), if_pos hk]
  refine ⟨1, by omega, pp, ?_⟩
  rw [Nat.mul_one]
  exact (BdL.plus hD hxB hyB).mono (by omega)
structure TrI (input : List Int) (x : List Rat) (S : List (List Int)) (Y : List (List Rat)) (D B : Nat) : Prop where
 len : S.length = Y.length
 size : ∀ (j : Nat) (s : List Int) (y : List Rat), S[j]? = some s -> Y[j]? = some y -> (y.length : Int) = sizeL s
 x0 : (x.length : Int) = sizeL input
 hD : 0 < D
 hB : 1 <= B
 bx : BdL D B x
 bY : ∀ y ∈ Y, BdL D B y
theorem TrI.curr {input : List Int} {x : List Rat} {S : List (List Int)} {Y : List (List Rat)} {D B : Nat} (h : TrI input x S Y D B) : ((currQ x Y).length : Int) = sizeL (currL input S) /\ BdL D B (currQ x Y) := by
 unfold currQ currL
 rw [List.getLast?_eq_getElem?, List.getLast?_eq_getElem?, h.len]
 cases hy : Y[Y.length - 1]? with
 | none =>
  have hs : S[Y.length - 1]? = none := by
   rw [List.getElem?_eq_none_iff] at hy ⊢
   have := h.len
   omega
  rw [hs]
  exact ⟨h.x0, h.bx⟩
 | some y =>
  have hlt := (List.getElem?_eq_some_iff.1 hy).1
  have hls : Y.length - 1 < S.length := by rw [h.len]; exact hlt
  have hs : S[Y.length - 1]? = some (S[Y.length - 1]'hls) := List.getElem?_eq_getElem hls
  rw [hs]
  exact ⟨h.size _ _ _ hs hy, h.bY y (List.mem_of_getElem? hy)⟩
theorem TrI.frm {input : List Int} {x : List Rat} {S : List (List Int)} {Y : List (List Rat)} {D B : Nat} (h : TrI input x S Y D B) (f : Int) : BdL D B (fromQ x Y f) := by
 unfold fromQ
 split
 ·rw [List.getD_eq_getElem?_getD]
  cases hy : Y[f.toNat]? with
  | none => exact BdL.nil _ _
  | some y => exact h.bY y (List.mem_of_getElem? hy)
 ·exact h.bx
theorem TrI.step {input : List Int} {x : List Rat} {S : List (List Int)} {Y : List (List Rat)} {D B : Nat} {l : LayL} (h : TrI input x S Y D B) (hl : (outSL input S l).2 = 0) (hs : SmallL l) (hv : validL (currL input S) = true) :
  ∃ k, 0 < k /\ k <= WQ /\ TrI input x (S ++ [(outSL input S l).1]) (Y ++ [layQ l (currL input S) (currQ x Y) (fromQ x Y l.frm)]) (D * k) (9671406556917033397649408 * B) := by
 obtain ⟨hc, hcb⟩ := h.curr
 have hsz := (validL_size hv).2
 obtain ⟨k, k1, k2, k3⟩ := layQ_bd (fit_of hl).1 hc (by omega) hcb (h.frm l.frm) h.hD h.hB hs
 refine ⟨k, k1, k2, by simp [h.len], ?_, h.x0, Nat.mul_pos h.hD k1, by have := h.hB; omega, (h.bx.bump k1).mono (by have := h.hB; omega), ?_⟩
 ·intro j s y hs hy
  by_cases hj : j < S.length
  ·rw [List.getElem?_append_left hj] at hs
   rw [List.getElem?_append_left (by rw [<- h.len]; exact hj)] at hy
   exact h.size j s y hs hy
  ·have hlt := (List.getElem?_eq_some_iff.1 hs).1
   simp only [List.length_append, List.length_cons, List.length_nil] at hlt
   obtain rfl : j = S.length := by omega
   have e1 : s = (outSL input S l).1 := by simpa using hs.symm
   rw [h.len] at hy
   have e2 : y = layQ l (currL input S) (currQ x Y) (fromQ x Y l.frm) := by simpa using hy.symm
   rw [e1, e2]
   exact layQ_len hl hc
 ·intro y hy
  rcases List.mem_append.1 hy with hy | hy
  ·exact ((h.bY y hy).bump k1).mono (by have := h.hB; omega)
  ·simp only [List.mem_singleton] at hy
   rw [hy]; exact k3
theorem Bd.small {D B M N k : Nat} {q : Rat} (h : Bd D B q) (hD : D <= M) (hB : B <= N) (hk : N * M + M < 4294967296 ^ k) : RatLe (ratL q) k :=
 h.le (Nat.lt_of_le_of_lt (Nat.add_le_add (Nat.mul_le_mul hB hD) hD) hk)
theorem validR_back : ∀ {L : List RatL}, L.all validR = true -> L = (L.map ratOf).map ratL
 | [], _ => rfl
 | x :: r, h => by
  rw [List.all_cons, Bool.and_eq_true] at h
  have h1 := h.1
  unfold validR at h1
  rw [decide_eq_true_eq, canonL_ratL] at h1
  rw [List.map_cons, List.map_cons, <- validR_back h.2, <- h1]
def Room (D B : Nat) : Prop := (9671406556917033397649408 * B) * (D * WQ) + D * WQ < 4294967296 ^ 524285
theorem Room.bd {D B D' B' : Nat} {q : Rat} (h : Room D B) (hq : Bd D' B' q) (hD : D' <= D * WQ) (hB : B' <= 9671406556917033397649408 * B) : RatLe (ratL q) 524285 := hq.small hD hB h
def smallR (x : RatL) : Bool := decide (x.num.length <= 2) && decide (x.den.length <= 1)
def littleL (L : List RatL) : Bool := L.all smallR && L.all validR
theorem allR_take {L : List RatL} {j : Nat} {x : RatL} (hx : L[j]? = some x) : (L.take (j + 1)).all smallR = ((L.take j).all smallR && smallR x) := by
 rw [take_succ_at hx, List.all_append]; simp
theorem kLittle {w : World} {a : Option Addr} {L : List RatL} (c : Nat) (h : RatsAt w a L) (hL : ∀ x ∈ L, RatLe x 1048576) :
  Calls Tryz.prog 16 #[.slice a L.length c] w fun e w' => e = .returned (.bool (littleL L)) /\ Below w.heap.size w w' := by
 have q1 := h.len
 have H := hid h
 have HV := hid (r3ValidAll c h hL)
 generalize hR : littleL L = R
 unfold littleL at hR
 have HR := hid hR
 clear h hL hR
 go_enter Tryz.func16, Tryz.ntmps16
 go_wp2
 go_loopw [3] (fun i wr => ∃ j : Nat, j <= L.length /\ i = .int .i64 (j : Int) /\ Hid ((L.take j).all smallR = true) /\ Hid (w = wr)) (fun i _ => L.length - (intOf i).toNat)
 case atStart => exact ⟨0, Nat.zero_le _, rfl, rfl, rfl⟩
 case round =>
  obtain ⟨j, hj, rfl, HA, HW⟩ := hrel
  have ew := HW.out
  clear HW
  subst ew
  by_cases hlt : j < L.length
  ·obtain ⟨b, off, x, an, ad, cn, cd, rfl, hb, hx, x0, x1, x2, hv⟩ := H.out.pick hlt
   have HT := hid (allR_take hx)
   have HM := hid (List.mem_of_getElem? hx)
   clear hx hv
   by_cases g1 : x.num.length <= 2
   ·by_cases g2 : x.den.length <= 1
    ·have HA2 : Hid ((L.take (j + 1)).all smallR = true) := by unfold Hid; rw [HT.out, HA.out]; unfold smallR; rw [decide_eq_true g1, decide_eq_true g2]; rfl
     go_wp2
     go_roundw
     case rel => exact ⟨j + 1, hlt, by go_num, HA2.out, by first | rfl | exact True.intro⟩
     case measure => simp [intOf]; omega
    ·have HF : Hid (R = false) := by
      unfold Hid
      have : L.all smallR = false := by rw [List.all_eq_false]; exact ⟨x, HM.out, by simp [smallR, g2]⟩
      rw [<- HR.out, this]; rfl
     go_wp2
     go_ret
     exact ⟨ret_bool HF.out.symm, Below.refl _ _⟩
   ·have HF : Hid (R = false) := by
     unfold Hid
     have : L.all smallR = false := by rw [List.all_eq_false]; exact ⟨x, HM.out, by simp [smallR, g1]⟩
     rw [<- HR.out, this]; rfl
    go_wp2
    go_ret
    exact ⟨ret_bool HF.out.symm, Below.refl _ _⟩
  ·obtain rfl : j = L.length := by omega
   have HE : Hid (L.all validR = R) := by
    have := HA.out
    rw [List.take_length] at this
    unfold Hid
    rw [<- HR.out, this]; rfl
   go_wp2_with fail
   refine HV.out.mono ?_
   rintro e w' ⟨rfl, hb⟩
   have HB := hid hb
   clear hb
   rw [HE.out]
   go_wp2
   go_ret
   exact ⟨rfl, HB.out⟩
def okLay (l : LayL) : Bool := decide (l.weights.length <= 60) && (decide (l.bias.length <= 60) && (littleL l.weights && littleL l.bias))
def fairE (m : ModL) (L : List RatL) : Bool := decide (m.layers.length <= 8) && (decide (sizeL m.input <= 30) && (decide (L.length <= 30) && (decide (m.input.length <= 8) && (m.layers.all okLay && littleL L))))
theorem allO_take {L : List LayL} {j : Nat} {x : LayL} (hx : L[j]? = some x) : (L.take (j + 1)).all okLay = ((L.take j).all okLay && okLay x) := by
 rw [take_succ_at hx, List.all_append]; simp
structure StepV where
 kd : Int
 fr : Int
 ot : Int
 kh : Int
 kw : Int
 st : Int
 pd : Int
 a1 : Option Addr
 n1 : Nat
 c1 : Nat
 a2 : Option Addr
 n2 : Nat
 c2 : Nat
 aS : Option Addr
 nS : Nat
 cS : Nat
 ax : Option Addr
 nx : Nat
 cx : Nat
 ai : Option Addr
 ni : Nat
 ci : Nat
 aT : Option Addr
 nT : Nat
 cT : Nat
abbrev stC (S : StepV) : Array Value := #[.int .i64 S.kd, .int .i64 S.fr, .int .i64 S.ot, .int .i64 S.kh, .int .i64 S.kw, .int .i64 S.st, .int .i64 S.pd, .slice S.a1 S.n1 S.c1, .slice S.a2 S.n2 S.c2, .slice S.aS S.nS S.cS, .slice S.ax S.nx S.cx, .slice S.ai S.ni S.ci, .slice S.aT S.nT S.cT]
def StepV.val (s : StepV) : Value :=
 .agg #[.int .i64 s.kd, .int .i64 s.fr, .int .i64 s.ot, .int .i64 s.kh, .int .i64 s.kw, .int .i64 s.st, .int .i64 s.pd, .slice s.a1 s.n1 s.c1, .slice s.a2 s.n2 s.c2,
  .slice s.aS s.nS s.cS, .slice s.ax s.nx s.cx, .slice s.ai s.ni s.ci, .slice s.aT s.nT s.cT]
def StepV.cells (s : StepV) : Array Value :=
 #[.int .i64 s.kd, .int .i64 s.fr, .int .i64 s.ot, .int .i64 s.kh, .int .i64 s.kw, .int .i64 s.st, .int .i64 s.pd, .slice s.a1 s.n1 s.c1, .slice s.a2 s.n2 s.c2,
  .slice s.aS s.nS s.cS, .slice s.ax s.nx s.cx, .slice s.ai s.ni s.ci, .slice s.aT s.nT s.cT]
structure SBox (W : World) (g : Nat) (s : StepV) : Prop where
 f0 : W.cell? ⟨g, 0, none⟩ = some (.int .i64 s.kd)
 f1 : W.cell? ⟨g, 1, none⟩ = some (.int .i64 s.fr)
 f2 : W.cell? ⟨g, 2, none⟩ = some (.int .i64 s.ot)
 f3 : W.cell? ⟨g, 3, none⟩ = some (.int .i64 s.kh)
 f4 : W.cell? ⟨g, 4, none⟩ = some (.int .i64 s.kw)
 f5 : W.cell? ⟨g, 5, none⟩ = some (.int .i64 s.st)
 f6 : W.cell? ⟨g, 6, none⟩ = some (.int .i64 s.pd)
 f7 : W.cell? ⟨g, 7, none⟩ = some (.slice s.a1 s.n1 s.c1)
 f8 : W.cell? ⟨g, 8, none⟩ = some (.slice s.a2 s.n2 s.c2)
 f9 : W.cell? ⟨g, 9, none⟩ = some (.slice s.aS s.nS s.cS)
 f10 : W.cell? ⟨g, 10, none⟩ = some (.slice s.ax s.nx s.cx)
 f11 : W.cell? ⟨g, 11, none⟩ = some (.slice s.ai s.ni s.ci)
 f12 : W.cell? ⟨g, 12, none⟩ = some (.slice s.aT s.nT s.cT)
 free : ∀ i, W.frozen? ⟨g, i, none⟩ = false
 lt : g < W.heap.size
theorem SBox.below {W W' : World} {g : Nat} {s : StepV} (h : SBox W g s) (hb : Below W.heap.size W W') : SBox W' g s := by
 obtain ⟨f0, f1, f2, f3, f4, f5, f6, f7, f8, f9, f10, f11, f12, ff, lt⟩ := h
 have k := fun o => hb.cell (p := ⟨g, o, none⟩) lt
 exact ⟨(k 0).trans f0, (k 1).trans f1, (k 2).trans f2, (k 3).trans f3, (k 4).trans f4, (k 5).trans f5, (k 6).trans f6, (k 7).trans f7, (k 8).trans f8, (k 9).trans f9, (k 10).trans f10, (k 11).trans f11, (k 12).trans f12,
  fun i => (hb.frozen lt).trans (ff i), Nat.lt_of_lt_of_le lt hb.size⟩
theorem SBox.alloc (W : World) (s : StepV) (T : Nat) : SBox (W.alloc (.cells s.cells T)) W.heap.size s := by
 refine ⟨?_, ?_, ?_, ?_, ?_, ?_, ?_, ?_, ?_, ?_, ?_, ?_, ?_, ?_, ?_⟩
 all_goals first | (rw [World.cell?_alloc_at _ _ _ _ rfl]; rfl) | exact fun o => World.frozen?_alloc_new _ _ _ _ | simp
theorem RatV.parts {w : World} {an ad : Option Addr} {cn cd : Nat} {x : RatL} (h : RatV w (.agg #[.bool x.neg, .slice an x.num.length cn, .slice ad x.den.length cd]) x) : x.num.length <= cn /\ x.den.length <= cd /\ U32s w an x.num /\ U32s w ad x.den := by
 obtain ⟨an', ad', cn', cd', e, h2, h3, h4, h5⟩ := h.ex
 cases e
 exact ⟨h2, h3, h4, h5⟩
structure AcI (w wr : World) (g : Nat) (q : RatL) : Prop where
 box : RBox wr g q
 bl : Below w.heap.size w wr
 ge : w.heap.size <= g
theorem AcI.below {w wr W : World} {g : Nat} {q : RatL} (h : AcI w wr g q) (hb : Below wr.heap.size wr W) : AcI w W g q := ⟨h.box.below hb, h.bl.trans (hb.mono h.bl.size), h.ge⟩
theorem AcI.step {w wr W : World} {g : Nat} {q y : RatL} {bn bd : Option Addr} {dn dd : Nat} (h : AcI w wr g q) (hb : Below wr.heap.size wr W)
  (g2 : y.num.length <= dn) (g3 : y.den.length <= dd) (g4 : U32s W bn y.num) (g5 : U32s W bd y.den) :
  AcI w (((W.setCell ⟨g, 0, none⟩ (.bool y.neg)).setCell ⟨g, 1, none⟩ (.slice bn y.num.length dn)).setCell ⟨g, 2, none⟩ (.slice bd y.den.length dd)) g y :=
 ⟨(h.box.below hb).store g2 g3 g4 g5, below_store3 (h.bl.trans (hb.mono h.bl.size)) h.ge _ _ _, h.ge⟩
def WinsPost (w : World) (L : List (List Int)) (e : Ending) (w' : World) : Prop := ∃ a c, e = .returned (.slice a L.length c) /\ Intss w' Any a L /\ Below w.heap.size w w'
theorem evWindows {w : World} {S : StepV} {sh : List Int} {F : Nat -> Prop} (h1 : sh.length = S.nS) (hS : Ints w F S.aS sh) :
  Calls Tryz.prog 102 #[S.val] w (WinsPost w (windowsL sh S.kh S.kw S.st S.pd).1) := by
 have HSB := hid (SBox.alloc w S 70)
 have hB1 := ((Below.refl w.heap.size w).alloc (Nat.le_refl _) (.cells S.cells 70))
 have HWn := hid (tWin S.cS S.kh S.kw S.st S.pd (hS.below hB1))
 rw [h1] at HWn
 have HB1 := hid hB1
 clear hS h1 hB1
 generalize hwl : (windowsL sh S.kh S.kw S.st S.pd) = WL
 have HWl := hid hwl
 clear hwl
 unfold StepV.val
 unfold StepV.cells at HSB HB1 HWn
 go_enter Tryz.func102, Tryz.ntmps102
 go_upto_region 1 with fail
 generalize w.alloc (.cells (stC S) 70) = W1 at *
 obtain ⟨f0, f1, f2, f3, f4, f5, f6, f7, f8, f9, f10, f11, f12, ff, lt⟩ := HSB.out
 go_wp2_with fail
 refine HWn.out.mono ?_
 rintro e Wx ⟨aw, cw, rfl, hI, hb⟩
 rw [HWl.out] at hI ⊢
 have hNP : WinsPost w WL.1 (.returned (.slice aw WL.1.length cw)) Wx := ⟨aw, cw, rfl, hI.mono (fun _ _ _ => trivial), HB1.out.trans (hb.mono HB1.out.size)⟩
 have HNP := hid hNP
 clear hI hb hNP
 generalize WL.1 = LL at *
 generalize WL.2.1 = e1 at *
 generalize WL.2.2.1 = e2 at *
 generalize WL.2.2.2 = e3 at *
 go_wp2
 exact bodyPost_ret (v := .slice aw LL.length cw) (by simp [results, Tryz.results102, go_sem]) rfl HNP.out
def denseO (bs ws x : List Rat) (r : Nat) : Rat := sumQ (bs.getD r 0) ws (r * x.length) (iotaZ x.length) x
def denseK (k : Nat) (bs ws x : List Rat) : List Rat := (List.range k).map (denseO bs ws x)
theorem denseK_succ (k : Nat) (bs ws x : List Rat) : (denseK (k + 1) bs ws x).map ratL = (denseK k bs ws x).map ratL ++ [ratL (denseO bs ws x k)] := by simp [denseK, List.range_succ]
theorem denseK_len (k : Nat) (bs ws x : List Rat) : ((denseK k bs ws x).map ratL).length = k := by simp [denseK]
theorem evDense {w : World} {S : StepV} {bs ws x : List Rat} (h1 : ws.length = S.n1) (h2 : bs.length = S.n2) (h3 : x.length = S.nx)
  (hW : RatsAt w S.a1 (ws.map ratL)) (hB : RatsAt w S.a2 (bs.map ratL)) (hX : RatsAt w S.ax (x.map ratL)) (hwl : S.n2 * S.nx <= S.n1) (hN1 : S.n1 <= 1000000) (hN2 : S.n2 <= 1000000) (hNx : S.nx <= 1000000)
  (hw1 : ∀ q ∈ ws, RatLe (ratL q) 1048575) (hx1 : ∀ q ∈ x, RatLe (ratL q) 1048575) (hp : ∀ p ∈ ws, ∀ q ∈ x, RatLe (ratL (p * q)) 524286)
  (hs : ∀ r, r < S.n2 -> ∀ k, k <= S.nx -> RatLe (ratL (psum (bs.getD r 0) ws (r * S.nx) (iotaZ S.nx) x k)) 524286) :
  Calls Tryz.prog 63 #[S.val] w (RowRet w ((denseK S.n2 bs ws x).map ratL)) := by
 have HW := hid hW
 have HBi := hid hB
 have HX := hid hX
 have H1 := hid h1
 have H2 := hid h2
 have H3 := hid h3
 have Hw1 := hid hw1
 have Hx1 := hid hx1
 have Hp := hid hp
 have Hs := hid hs
 have Hwl := hid hwl
 have HSB := hid (SBox.alloc w S 70)
 have HB1 := hid ((Below.refl w.heap.size w).alloc (Nat.le_refl _) (.cells S.cells 70))
 clear hW hB hX hw1 hx1 hp hs hwl h1 h2 h3
 unfold StepV.val
 unfold StepV.cells at HSB HB1
 go_enter Tryz.func63, Tryz.ntmps63
 go_upto_region 1 with fail
 generalize w.alloc (.cells (stC S) 70) = W1 at *
 have f10 := HSB.out.f10
 have f8 := HSB.out.f8
 go_wp2
 clear f10 f8
 go_loopw [3, 16] (fun v i wr => ∃ (r : Nat) (a : Option Addr) (c : Nat), r <= S.n2 /\ v = .slice a r c /\ i = .int .i64 (r : Int) /\ Hid (OutI W1 wr (.slice a r c) ((denseK r bs ws x).map ratL))) (fun _ i _ => S.n2 - (intOf i).toNat)
 case atStart => exact ⟨0, none, 0, Nat.zero_le _, rfl, rfl, OutI.start W1⟩
 case round =>
  obtain ⟨r, b0, k0, hr, rfl, rfl, HOut⟩ := hrel
  obtain ⟨wq, hwq⟩ : ∃ wq : World, wq = wr := ⟨_, rfl⟩
  subst hwq
  by_cases hlt : r < S.n2
  ·have HSr := hid (HSB.out.below HOut.out.bl)
   have hbr : Below w.heap.size w wq := HB1.out.trans (HOut.out.bl.mono HB1.out.size)
   obtain ⟨bb, ob, u, un, ud, ucn, ucd, hab, hbb, hu, uc0, uc1, uc2, huv⟩ := HBi.out.pick (k := r) (by rw [List.length_map, H2.out]; exact hlt)
   obtain ⟨hu1, hu2⟩ := map_get hu
   have uc0 := (hbr.cell (p := ⟨bb, ob + r * 3, none⟩) hbb).trans uc0
   have uc1 := (hbr.cell (p := ⟨bb, ob + r * 3 + 1, none⟩) hbb).trans uc1
   have uc2 := (hbr.cell (p := ⟨bb, ob + r * 3 + 2, none⟩) hbb).trans uc2
   obtain ⟨q2, q3, q4, q5⟩ := huv.parts
   have f10 := HSr.out.f10
   have Hu2 := hid hu2
   have HAc : Hid (AcI wq (wq.alloc (ratO u un ucn ud ucd 37)) wq.heap.size u) := ⟨RBox.alloc q2 q3 (q4.below hbr) (q5.below hbr) _, (Below.refl _ _).alloc (Nat.le_refl _) _, Nat.le_refl _⟩
   have HBr := hid hbr
   have HSn := hid (HSr.out.below HAc.out.bl)
   rw [hab]
   clear hu hu1 hu2 huv q4 q5 hbr hab
   go_upto_region 6 with fail
   generalize wq.alloc (ratO u un ucn ud ucd 37) = Wg at *
   clear uc0 uc1 uc2 f10
   have f10 := HSn.out.f10
   go_wp2
   clear f10
   go_loopw [24] (fun i wi => ∃ k : Nat, k <= S.nx /\ i = .int .i64 (k : Int) /\ Hid (AcI wq wi wq.heap.size (ratL (psum (bs.getD r 0) ws (r * S.nx) (iotaZ S.nx) x k)))) (fun i _ => S.nx - (intOf i).toNat)
   case atStart => exact ⟨0, Nat.zero_le _, rfl, by have h := HAc.out; rw [Hu2.out] at h; exact h⟩
   case round =>
    obtain ⟨k, hk, rfl, HI⟩ := hrel
    by_cases hlk : k < S.nx
    ·obtain ⟨p0, hp0⟩ : ∃ p0, p0 = r * S.nx := ⟨_, rfl⟩
     have hmul : p0 + k < S.n1 := by
      have e1 : (r + 1) * S.nx <= S.n2 * S.nx := Nat.mul_le_mul_right _ hlt
      have e2 := Hwl.out
      rw [Nat.succ_mul, <- hp0] at e1
      omega
     have hbi : Below w.heap.size w wr := HBr.out.trans (HI.out.bl.mono HBr.out.size)
     obtain ⟨bw, ow, v, vn, vd, vcn, vcd, haw, hbw, hv, wc0, wc1, wc2, hwv⟩ := HW.out.pick (k := p0 + k) (by rw [List.length_map, H1.out]; exact hmul)
     obtain ⟨bx, ox, y, yn, yd, ycn, ycd, hax, hbx, hyy, yc0, yc1, yc2, hyv⟩ := HX.out.pick (k := k) (by rw [List.length_map, H3.out]; exact hlk)
     obtain ⟨hv1, hv2⟩ := map_get hv
     obtain ⟨hy1, hy2⟩ := map_get hyy
     obtain ⟨s, hs⟩ : ∃ s, s = ratL (psum (bs.getD r 0) ws (r * S.nx) (iotaZ S.nx) x k) := ⟨_, rfl⟩
     obtain ⟨s1, hs1⟩ : ∃ s1, s1 = ratL (psum (bs.getD r 0) ws (r * S.nx) (iotaZ S.nx) x (k + 1)) := ⟨_, rfl⟩
     obtain ⟨pr, hpr⟩ : ∃ pr, pr = ratL (ratOf v * ratOf y) := ⟨_, rfl⟩
     have hq : ratL (ratOf s + ratOf pr) = s1 := by
      rw [hs, hpr, hs1, ratOf_ratL, ratOf_ratL, psum_step (iotaZ_at hlk), hv1, hy1, <- hp0]
     have hmem : ws.getD (p0 + k) 0 ∈ ws := by
      rw [List.getD_eq_getElem?_getD, List.getElem?_eq_getElem (by rw [H1.out]; exact hmul)]; exact List.getElem_mem _
     have hmex : x.getD k 0 ∈ x := by
      rw [List.getD_eq_getElem?_getD, List.getElem?_eq_getElem (by rw [H3.out]; exact hlk)]; exact List.getElem_mem _
     have HI1 := HI.out
     rw [<- hs] at HI1
     obtain ⟨yq2, yq3, yq4, yq5⟩ := hyv.parts
     have hal : Below wr.heap.size wr (wr.alloc (ratO y yn ycn yd ycd 37)) := (Below.refl _ _).alloc (Nat.le_refl _) _
     have HI2 := hid (HI1.below hal)
     have HYb := hid (Box3.alloc wr (.bool y.neg) (.slice yn y.num.length ycn) (.slice yd y.den.length ycd) 37)
     have HBj := hid (hbi.trans (hal.mono hbi.size))
     have HSj := hid ((HSr.out.below HI.out.bl).below hal)
     have hgl : wq.heap.size < wr.heap.size := HI1.box.lt
     have HS1 := hid hs1
     have HI1 := hid HI1
     have HHs := hid hs
     have HHpr := hid hpr
     have HHv := hid (And.intro hv1 hv2)
     have HHy := hid (And.intro hy1 hy2)
     have HHq := hid hq
     have m0 : IntKind.i64.wrap ((r : Int) * (S.nx : Int)) = (p0 : Int) := by
      rw [<- Int.natCast_mul, <- hp0]; exact IntWalk.i64_in _ (by omega)
     have hyv' := hid hyv
     have hwv' := hid hwv
     have uy0 := (hbi.cell (p := ⟨bx, ox + k * 3, none⟩) hbx).trans yc0
     have uy1 := (hbi.cell (p := ⟨bx, ox + k * 3 + 1, none⟩) hbx).trans yc1
     have uy2 := (hbi.cell (p := ⟨bx, ox + k * 3 + 2, none⟩) hbx).trans yc2
     have hbx2 := Nat.lt_of_lt_of_le hbx hbi.size
     rw [hax, haw]
     clear hv1 hv2 hy1 hy2 hs hs1 hpr hq hal yq4 yq5 hv hyy hyv hwv hp0
     go_upto_region 9 with fail
     generalize wr.alloc (ratO y yn ycn yd ycd 37) = wj at *
     obtain ⟨sn, sd, scn, scd, hbxs, s2, s3, s4, s5⟩ := HI2.out.box.ex
     have HMul : Hid (∀ W, Below wj.heap.size wj W -> Calls Tryz.prog 101 #[.agg #[.bool v.neg, .slice vn v.num.length vcn, .slice vd v.den.length vcd], .agg #[.bool y.neg, .slice yn y.num.length ycn, .slice yd y.den.length ycd]] W (RetR W pr)) := fun W hb => by
      have hbw2 := HBj.out.trans (hb.mono HBj.out.size)
      rw [HHpr.out]
      exact rMul (hwv'.out.below hbw2) (hyv'.out.below hbw2) (by rw [HHv.out.2]; exact Hw1.out _ hmem) (by rw [HHy.out.2]; exact Hx1.out _ hmex)
     have HAdd : Hid (∀ W, Below wj.heap.size wj W -> ∀ z, RatV W z pr -> Calls Tryz.prog 100 #[.agg #[.bool s.neg, .slice sn s.num.length scn, .slice sd s.den.length scd], z] W (RetR W s1)) := fun W hb z hz => by
      have e1 : RatLe s 1048575 := (show RatLe s 524286 by rw [HHs.out]; exact Hs.out r hlt k (Nat.le_of_lt hlk)).mono (by omega)
      have e2 : RatLe pr 1048575 := (show RatLe pr 524286 by rw [HHpr.out, HHv.out.1, HHy.out.1]; exact Hp.out _ hmem _ hmex).mono (by omega)
      have h := rAdd (x := s) ⟨sn, sd, scn, scd, rfl, s2, s3, s4.below hb, s5.below hb⟩ hz e1 e2
      rw [HHq.out] at h
      exact h
     have HCe : Hid (∀ W, Below wj.heap.size wj W -> W.cell? ⟨wq.heap.size, 0, none⟩ = some (.bool s.neg) /\ W.cell? ⟨wq.heap.size, 1, none⟩ = some (.slice sn s.num.length scn) /\ W.cell? ⟨wq.heap.size, 2, none⟩ = some (.slice sd s.den.length scd) /\
       W.cell? ⟨w.heap.size, 7, none⟩ = some (.slice (some ⟨bw, ow, none⟩) S.n1 S.c1) /\
       W.cell? ⟨bw, ow + (p0 + k) * 3, none⟩ = some (.bool v.neg) /\ W.cell? ⟨bw, ow + (p0 + k) * 3 + 1, none⟩ = some (.slice vn v.num.length vcn) /\ W.cell? ⟨bw, ow + (p0 + k) * 3 + 2, none⟩ = some (.slice vd v.den.length vcd) /\
       W.cell? ⟨wr.heap.size, 0, none⟩ = some (.bool y.neg) /\ W.cell? ⟨wr.heap.size, 1, none⟩ = some (.slice yn y.num.length ycn) /\ W.cell? ⟨wr.heap.size, 2, none⟩ = some (.slice yd y.den.length ycd)) := fun W hb => by
      have hbw2 := HBj.out.trans (hb.mono HBj.out.size)
      have g7 := (HSj.out.below hb).f7
      rw [haw] at g7
      exact ⟨(hb.cell hbxs.lt).trans hbxs.c0, (hb.cell hbxs.lt).trans hbxs.c1, (hb.cell hbxs.lt).trans hbxs.c2, g7, (hbw2.cell hbw).trans wc0, (hbw2.cell hbw).trans wc1, (hbw2.cell hbw).trans wc2,
       (hb.cell HYb.out.lt).trans HYb.out.c0, (hb.cell HYb.out.lt).trans HYb.out.c1, (hb.cell HYb.out.lt).trans HYb.out.c2⟩
     have hs0 := hbxs.lt
     have hs9 := HYb.out.lt
     clear wc0 wc1 wc2 yc0 yc1 yc2 uy0 uy1 uy2 s4 s5 hbxs hmem hmex
     refine wp_region_slots_tail 14 (by kernel_rfl) (by kernel_rfl) (by kernel_rfl) (by kernel_rfl) (by decide) (From wj.heap.size wj) (fun w w' => Below w.heap.size w w') (GR [.val (.agg #[.bool s.neg, .slice sn s.num.length scn, .slice sd s.den.length scd]), .val (.pointer (some ⟨w.heap.size, 0, none⟩)), .val (.pointer (some ⟨w.heap.size, 7, none⟩)), .val (.slice (some ⟨bw, ow, none⟩) S.n1 S.c1), .val (.int .i64 (r : Int)), .val (.int .i64 (S.nx : Int)), .val (.int .i64 (p0 : Int)), .val (.int .i64 (k : Int)), .val (.int .i64 ((p0 : Int) + (k : Int))), .val (.pointer (some ⟨bw, ow + (p0 + k) * 3, none⟩)), .val (.agg #[.bool v.neg, .slice vn v.num.length vcn, .slice vd v.den.length vcd]), .val (.agg #[.bool y.neg, .slice yn y.num.length ycn, .slice yd y.den.length ycd]), .rat pr, .rat s1]) (fun i v w w' h hb => GR_below h hb) (From.start (Nat.le_refl _)) ?_ ?_
     ·intro ops
      simp only [List.take_succ_cons, List.take_zero, Shows]
      refine ⟨?_, ?_, ?_, ?_, ?_, ?_, ?_, ?_, ?_, ?_, ?_, ?_, ?_, ?_, trivial⟩
      all_goals (intro g W hR hL; have hB := hR.base; obtain ⟨x0, x1, x2, f7, wc0, wc1, wc2, yc0, yc1, yc2⟩ := HCe.out W hR.be; simp only [Laid, Region.binds, forall_const, Bool.false_eq_true, false_implies, GR, List.getElem?_cons_zero, List.getElem?_cons_succ] at hL; simp [fillFrom, Act.put])
      ·clear hL
       have HR := hid hR
       clear hR
       go_wp2
       exact ⟨_, rfl, HR.out, Below.refl _ _, rfl⟩
      ·clear hL
       have HR := hid hR
       clear hR
       go_wp2
       exact ⟨_, rfl, HR.out, Below.refl _ _, rfl⟩
      ·generalize g 1 = y1 at hL ⊢
       obtain ⟨rfl, _⟩ := hL
       have HR := hid hR
       clear hR
       go_wp2
       exact ⟨_, rfl, HR.out, Below.refl _ _, rfl⟩
      ·generalize g 2 = y2 at hL ⊢
       obtain ⟨rfl, _⟩ := hL
       have HR := hid hR
       clear hR
       go_wp2
       exact ⟨_, rfl, HR.out, Below.refl _ _, rfl⟩
      ·clear hL
       have HR := hid hR
       clear hR
       go_wp2
       exact ⟨_, rfl, HR.out, Below.refl _ _, rfl⟩
      ·clear hL
       have HR := hid hR
       clear hR
       go_wp2
       exact ⟨_, rfl, HR.out, Below.refl _ _, rfl⟩
      ·generalize g 4 = y4 at hL ⊢
       generalize g 5 = y5 at hL ⊢
       obtain ⟨rfl, rfl, _⟩ := hL
       have HR := hid hR
       clear hR
       go_wp2
       exact ⟨_, rfl, HR.out, Below.refl _ _, rfl⟩
      ·clear hL
       have HR := hid hR
       clear hR
       go_wp2
       exact ⟨_, rfl, HR.out, Below.refl _ _, rfl⟩
      ·generalize g 6 = y6 at hL ⊢
       generalize g 7 = y7 at hL ⊢
       obtain ⟨rfl, rfl, _⟩ := hL
       have HR := hid hR
       clear hR
       go_wp2
       exact ⟨_, rfl, HR.out, Below.refl _ _, rfl⟩
      ·generalize g 3 = y3 at hL ⊢
       generalize g 8 = y8 at hL ⊢
       obtain ⟨rfl, rfl, _⟩ := hL
       have HR := hid hR
       clear hR
       go_wp2
       exact ⟨_, rfl, HR.out, Below.refl _ _, rfl⟩
      ·generalize g 9 = y9 at hL ⊢
       obtain ⟨rfl, _⟩ := hL
       have HR := hid hR
       clear hR
       go_wp2
       exact ⟨_, rfl, HR.out, Below.refl _ _, rfl⟩
      ·clear hL
       have HR := hid hR
       clear hR
       go_wp2
       exact ⟨_, rfl, HR.out, Below.refl _ _, rfl⟩
      ·generalize g 10 = y10 at hL ⊢
       generalize g 11 = y11 at hL ⊢
       obtain ⟨rfl, rfl, _⟩ := hL
       have HR := hid hR
       clear hR
       have HCt := hid (HMul.out W HR.out.be)
       go_wp2_with fail
       refine HCt.out.mono ?_
       rintro e w1 ⟨v1, rfl, kv, kb⟩
       have KV := hid kv
       have KB := hid kb
       clear kv kb HCt
       go_wp2
       exact ⟨_, rfl, ⟨Nat.le_trans HR.out.base KB.out.size, HR.out.be.trans (KB.out.mono HR.out.base)⟩, KB.out, KV.out⟩
      ·generalize g 0 = y0 at hL ⊢
       generalize g 12 = y12 at hL ⊢
       obtain ⟨rfl, H12, _, _⟩ := hL
       have K12 := hid H12
       have HR := hid hR
       clear hR H12
       have HCt := hid (HAdd.out W HR.out.be _ K12.out)
       go_wp2_with fail
       refine HCt.out.mono ?_
       rintro e w1 ⟨v1, rfl, kv, kb⟩
       have KV := hid kv
       have KB := hid kb
       clear kv kb HCt
       go_wp2
       exact ⟨_, rfl, ⟨Nat.le_trans HR.out.base KB.out.size, HR.out.be.trans (KB.out.mono HR.out.base)⟩, KB.out, KV.out⟩
     ·intro ops g W hR hL
      have hB := hR.base
      have J13 := hL.2
      simp only [GR, List.getElem?_cons_zero, List.getElem?_cons_succ] at J13
      obtain ⟨x0, x1, x2, f7, wc0, wc1, wc2, yc0, yc1, yc2⟩ := HCe.out W hR.be
      clear hL
      simp only [List.take_succ_cons, List.take_zero, List.drop_succ_cons, List.drop_zero]
      simp [fillFrom, Act.put]
      generalize g 13 = y13 at J13 ⊢
      have HR := hid hR
      clear hR
      obtain ⟨bn', bd', dn', dd', rfl, g2, g3, g4, g5⟩ := J13.ex
      have HBe := hid (show Below wj.heap.size wj W from HR.out.be)
      have HBx := hid (HI2.out.box.below HBe.out)
      obtain ⟨_, _, _, _, ⟨_, _, _, zf, zlt⟩, _⟩ := HBx.out.ex
      have HStep := hid (HI2.out.step HBe.out g2 g3 g4 g5)
      clear g4 g5 J13
      go_wp2
      go_roundw
      case rel => exact ⟨k + 1, hlk, by go_num, by rw [<- HS1.out]; exact HStep.out⟩
      case measure => simp [intOf]; omega
    ·obtain rfl : k = S.nx := by omega
     obtain ⟨s, hs⟩ : ∃ s, s = ratL (denseO bs ws x r) := ⟨_, rfl⟩
     have hbx : AcI wq wr wq.heap.size s := by
      have h := HI.out
      rw [hs, show denseO bs ws x r = psum (bs.getD r 0) ws (r * S.nx) (iotaZ S.nx) x S.nx by unfold denseO sumQ; rw [H3.out, iotaZ_len]]
      exact h
     have HStep : Hid _ := denseK_succ r bs ws x
     rw [<- hs] at HStep
     obtain ⟨sn, sd, scn, scd, ⟨x0, x1, x2, _, xlt⟩, s2, s3, s4, s5⟩ := hbx.box.ex
     have HRow := hid (Row1.alloc s2 s3 s4 s5 37)
     have HOw := hid ((HOut.out.below hbx.bl).below ((Below.refl wr.heap.size wr).alloc (Nat.le_refl _) (ratO s sn scn sd scd 37)))
     have HLn := hid (denseK_len r bs ws x)
     clear hbx s4 s5 hs
     go_wp2_with (at_builtin; refine wpList_appR rfl (.tmp 44) (.tmp 46) 26 rfl W1.heap.size Tryz.underlying26 Tryz.infoRat (.slice b0 r k0) r _ HLn.out rfl HOw.out.own _ s HRow.out rfl (by omega) HOw.out.bl.size ?_; intro b3 k3 w3 hown hk3 hg hbe; have HOut3 := hid (show OutI W1 w3 (.slice b3 (r + 1) k3) ((denseK (r + 1) bs ws x).map ratL) from ⟨by rw [HStep.out]; exact hown, HOw.out.bl.trans hbe⟩); clear hown hg hbe)
     go_roundw
     case rel => exact ⟨r + 1, b3, k3, hlt, rfl, by go_num, HOut3.out⟩
     case measure => simp [intOf]; omega
  ·obtain rfl : r = S.n2 := by omega
   go_wp2
   have hNP : RowRet w ((denseK S.n2 bs ws x).map ratL) (.returned (.slice b0 S.n2 k0)) wq := HOut.out.ret (denseK_len S.n2 bs ws x) (by omega) HB1.out
   exact bodyPost_ret (v := .slice b0 S.n2 k0) (by simp [results, Tryz.results63, go_sem]) rfl hNP
end Go.Proofs.YtoppijdedkdjeaaGreat

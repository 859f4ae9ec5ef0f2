/-
  Contracts of the functions that the statement reaches: LwQ.
-/
import Derived.Test.YtoppijdedkdjeaaGreatG42
set_option linter.unusedVariables false
set_option linter.unusedSimpArgs false
set_option linter.constructorNameAsVariable false
set_option linter.deprecated false
set_option maxRecDepth 100000
set_option maxHeartbeats 3200000
namespace Go.Proofs.YtoppijdedkdjeaaGreat
open Go.RowKit
open Go.Lib (hid)
def oneR (x : RatL) : Bool := decide (x.num.length <= 1) && (decide (x.den.length <= 1) && validR x)
def numB (L : List RatL) : Bool := L.all oneR && decide (L.length <= 200)
theorem numB_little {L : List RatL} (h : numB L = true) : littleL L = true /\ L.length <= 200 := by
 unfold numB at h
 rw [Bool.and_eq_true, decide_eq_true_eq] at h
 refine ⟨?_, h.2⟩
 unfold littleL
 rw [Bool.and_eq_true, List.all_eq_true, List.all_eq_true]
 have k : ∀ x ∈ L, x.num.length <= 1 /\ x.den.length <= 1 /\ validR x = true := fun x hx => by
  have := List.all_eq_true.1 h.1 x hx
  unfold oneR at this
  simpa only [Bool.and_eq_true, decide_eq_true_eq] using this
 refine ⟨fun x hx => ?_, fun x hx => (k x hx).2.2⟩
 obtain ⟨a, b, _⟩ := k x hx
 unfold smallR
 rw [decide_eq_true (by omega : x.num.length <= 2), decide_eq_true b]; rfl
theorem small_one {l : LayL} (h1 : numB l.weights = true) (h2 : numB l.bias = true) : SmallL l := by
 obtain ⟨a1, a2⟩ := numB_little h1
 obtain ⟨b1, b2⟩ := numB_little h2
 refine ⟨fun q hq => ?_, by rw [List.length_append]; simp [wq, bq]; omega⟩
 rcases List.mem_append.1 hq with hq | hq
 ·exact (little_back a1).2 q hq
 ·exact (little_back b1).2 q hq
theorem small_none {l : LayL} (h1 : l.weights = []) (h2 : l.bias = []) : SmallL l := ⟨by simp [wq, bq, h1, h2], by simp [wq, bq, h1, h2]⟩
theorem one_room {L : List RatL} (h : numB L = true) : L = (L.map ratOf).map ratL /\ ∃ D, 0 < D /\ BdL D 18446744073709551616 (L.map ratOf) /\ RoomK 12 D 18446744073709551616 := by
 obtain ⟨a1, a2⟩ := numB_little h
 obtain ⟨hb, hs⟩ := little_back a1
 obtain ⟨W, w1, w2, w3⟩ := BdL.small _ hs
 rw [List.length_map] at w2
 exact ⟨hb, W, w1, w3, room_of w2 (by omega)⟩
theorem one_run {m : ModL} {l : LayL} {x : List Rat} (hm : m.layers = [l]) (h0 : (shapesL m).2.2 = 0) (hx : (x.length : Int) = sizeL m.input) :
  FitL l m.input /\ numsB l = true /\ validL m.input = true /\ runL m x = ((layQ l m.input x (fromQ x [] l.frm)).map ratL, 0) := by
 obtain ⟨T, hf⟩ := fits_of (m := m) x h0
 obtain ⟨v1, _, _⟩ := hf.valid
 have hch := hf.ch
 rw [hm] at hch
 have hl := hch.1
 obtain ⟨s, rfl⟩ : ∃ s, T = [s] := by
  match T, hl with
  | [s], _ => exact ⟨s, rfl⟩
 have ho : outSL m.input [] l = (s, 0) := hch.2 0 s l rfl rfl
 have hfit := fit_of (input := m.input) (S := []) (l := l) (by rw [ho])
 refine ⟨hfit.1, hfit.2.1, v1, ?_⟩
 rw [runL_eq, if_pos h0, if_pos hx]
 unfold traceQ
 rw [hm]
 rfl
theorem none_of {input : List Int} {S : List (List Int)} {l : LayL} (h : (outSL input S l).2 = 0) (hk : l.kind = 3 ∨ l.kind = 4) : l.weights = [] /\ l.bias = [] := by
 rcases outSL_cases input S l with ⟨h1, _, _⟩ | ⟨hc, _⟩
 ·omega
 ·simp only [Bool.and_eq_true] at hc
  obtain ⟨⟨_, _, hl⟩, _⟩ := hc
  unfold layOK at hl
  rw [Bool.and_eq_true] at hl
  obtain ⟨hl, hn⟩ := hl
  unfold condL at hl
  rw [if_neg (by omega), if_neg (by omega), if_pos hk] at hl
  simp only [Bool.and_eq_true, noneB, decide_eq_true_eq] at hl
  exact hl.2.2
theorem one_out {m : ModL} {l : LayL} (hm : m.layers = [l]) (h0 : (shapesL m).2.2 = 0) : (outSL m.input [] l).2 = 0 := by
 obtain ⟨T, hf⟩ := fits_of (m := m) [] h0
 have hch := hf.ch
 rw [hm] at hch
 have hl := hch.1
 obtain ⟨s, rfl⟩ : ∃ s, T = [s] := by
  match T, hl with
  | [s], _ => exact ⟨s, rfl⟩
 have ho : outSL m.input [] l = (s, 0) := hch.2 0 s l rfl rfl
 rw [ho]
theorem size3 {C H W : Nat} {s : List Int} (hs : s = [(C : Int), (H : Int), (W : Int)]) (hv : validL s = true) : sizeL s = ((C * H * W : Nat) : Int) := by
 subst hs
 rw [sizeL, if_pos hv]
 simp [prodFrom]
structure ConvM (m : ModL) (l : LayL) (x : List Rat) (q : Win) (O n T : Nat) : Prop where
 ok : q.Ok
 n1 : 1 <= n
 hT : T = q.all.length
 one : (q.one 0 0).length = n
 out : l.out = (O : Int)
 bl : l.bias.length = O
 wl : l.weights.length = O * n
 o1 : 1 <= O
 ot : O * T <= 16384
 nt : n * T <= 262144
 nb : n <= 262144
 gat : gatherL m.input 2 l.kh l.kw l.stride l.pad = (gatherOf q.all, (n : Int), (T : Int), 0)
 run : runL m x = ((convQ O (bq l) (wq l) n q.all x).map ratL, 0)
 lens : ∀ ix ∈ q.all, ix.length = n
 lt : ∀ ix ∈ q.all, ∀ i ∈ ix, i < (x.length : Int)
theorem conv_one {m : ModL} {l : LayL} {x : List Rat} (hm : m.layers = [l]) (h0 : (shapesL m).2.2 = 0) (hx : (x.length : Int) = sizeL m.input) (hk : l.kind = 2) : ∃ q O n T, ConvM m l x q O n T := by
 obtain ⟨hf, hn, hv, hr⟩ := one_run hm h0 hx
 unfold layQ at hr
 rw [if_neg (by omega), if_pos hk] at hr
 cases hf with
 | conv q O hk' hq ht hs e1 e2 e3 e4 ho h1 hb hw hwl hz =>
  have hc : (m.input.getD 0 0).toNat * l.kh.toNat * l.kw.toNat = q.C * (q.kh * q.kw) := by rw [hs, e1, e2, Nat.mul_assoc]; rfl
  rw [hwl, hc, ho, Int.toNat_natCast] at hr
  have hb2 := Win.len_bd hq ht
  have h1l := q.one_len 0 0
  rw [h1l] at hb2
  have hal := q.all_len
  have htot : q.total = q.C * (q.kh * q.kw) * (q.R * q.Q) := by unfold Win.total; ac_rfl
  have hg := gatherL_ok hq hwl
  refine ⟨q, O, q.C * (q.kh * q.kw), q.all.length, hq, Nat.mul_pos hq.c1 (Nat.mul_pos hq.kh1 hq.kw1), rfl, h1l, ho, hb, by rw [hw, Nat.mul_assoc q.C], h1, by rw [hal]; exact hz, by rw [hal, <- htot]; exact ht, hb2.2.1, ?_, hr, q.all_one_len', ?_⟩
  ·rw [<- h1l]; exact hg
  ·intro ix hix i hi
   rw [hx, size3 hs hv]
   exact hq.all_lt ix hix i hi
 | dense R k => omega
 | pool q k => omega
 | keep k => omega
 | add k => omega
def grpL (q : Win) (n i : Nat) : List Int := partL (q.all.getD (i % q.all.length) []) (i / q.all.length * n) n
structure PoolM (m : ModL) (l : LayL) (x : List Rat) (q : Win) (n T : Nat) : Prop where
 ok : q.Ok
 hp : q.p = 0
 hn : n = q.kh * q.kw
 n1 : 1 <= n
 n2 : n <= 4096
 hT : T = q.all.length
 t1 : 1 <= T
 ct : q.C * T <= 16384
 pool : poolL m.input l.kind l.kh l.kw l.stride = (poolOf q.all q.C n, (n : Int), 0)
 run : runL m x = ((poolQ (if l.kind = 3 then maxL else avgL) q.C n q.all x).map ratL, 0)
 lens : ∀ ix ∈ q.all, ix.length = q.C * n
 nn : ∀ ix ∈ q.all, ∀ i ∈ ix, 0 <= i
 lt : ∀ ix ∈ q.all, ∀ i ∈ ix, i < (x.length : Int)
theorem pool_one {m : ModL} {l : LayL} {x : List Rat} (hm : m.layers = [l]) (h0 : (shapesL m).2.2 = 0) (hx : (x.length : Int) = sizeL m.input) (hk : l.kind = 3 ∨ l.kind = 4) : ∃ q n T, PoolM m l x q n T := by
 obtain ⟨hf, _, hv, hr⟩ := one_run hm h0 hx
 cases hf with
 | pool q hk' hq ht hs e1 e2 e3 e4 hp hwl hz =>
  have hr2 : runL m x = ((poolQ (if l.kind = 3 then maxL else avgL) q.C (q.kh * q.kw) q.all x).map ratL, 0) := by
   have hc : (m.input.getD 0 0).toNat = q.C := by rw [hs]; rfl
   have hn : l.kh.toNat * l.kw.toNat = q.kh * q.kw := by rw [e1, e2]; rfl
   rw [hr]
   unfold layQ
   rw [if_neg (by omega), if_neg (by omega), hwl, hc, hn]
   rcases hk with k | k
   ·rw [if_pos k, if_pos k]
   ·rw [if_neg (by omega), if_pos k, if_neg (by omega)]
  have hal := q.all_len
  have n1 : 1 <= q.kh * q.kw := Nat.mul_pos hq.kh1 hq.kw1
  have hpl := poolL_ok (n := q.kh * q.kw) hk hs e1 e2 rfl hwl
  have hT1 : 1 <= q.all.length := by rw [hal]; exact Nat.mul_pos (Nat.succ_pos _) (Nat.succ_pos _)
  exact ⟨q, q.kh * q.kw, q.all.length, hq, hp, rfl, n1, Nat.mul_le_mul hq.kh2 hq.kw2, rfl, hT1, by rw [hal]; exact hz, hpl, hr2, q.all_one_len', hq.all_nn hp, fun ix hix i hi => by rw [hx, size3 hs hv]; exact hq.all_lt ix hix i hi⟩
 | dense R k => omega
 | conv q O k => omega
 | keep k => omega
 | add k => omega
theorem PoolM.split {m : ModL} {l : LayL} {x : List Rat} {q : Win} {n T i : Nat} (h : PoolM m l x q n T) (hi : i < q.C * T) : i / T < q.C /\ i % T < T /\ i = i / T * T + i % T := by
 have h1 := h.t1
 refine ⟨(Nat.div_lt_iff_lt_mul (by omega)).2 hi, Nat.mod_lt _ (by omega), ?_⟩
 have := Nat.div_add_mod i T
 rw [Nat.mul_comm] at this
 omega
theorem PoolM.at {m : ModL} {l : LayL} {x : List Rat} {q : Win} {n T i k : Nat} (h : PoolM m l x q n T) (hi : i < q.C * T) (hk : k < n) : ∃ t : Nat, (poolOf q.all q.C n)[i * n + k]? = some (t : Int) /\ t < x.length /\ (valsQ (grpL q n i) x).getD k 0 = x.getD t 0 := by
 obtain ⟨c1, c2, e⟩ := h.split hi
 have hT := h.hT
 have hn := h.hn
 have hc2 : i % T < q.all.length := by omega
 obtain ⟨_, _, _, h3⟩ := q.all_pos hc2
 have hmem := List.mem_of_getElem? h3
 have hln := h.lens _ hmem
 have hb : i / T * n + k < (q.one ((i % T) / q.Q) ((i % T) % q.Q)).length := by
  rw [hln]
  have := Nat.mul_le_mul_right n (Nat.succ_le_of_lt c1)
  rw [Nat.succ_mul] at this
  omega
 have hget := pool_get c1 hc2 (t := k) (by omega)
 rw [<- hT, <- hn, <- e, List.getElem?_eq_getElem hb] at hget
 have hv := List.getElem_mem hb
 have v0 := h.nn _ hmem _ hv
 have v1 := h.lt _ hmem _ hv
 generalize hz : (q.one ((i % T) / q.Q) ((i % T) % q.Q))[i / T * n + k] = z at hget hv v0 v1
 have ez : ((z.toNat : Nat) : Int) = z := by omega
 refine ⟨z.toNat, by rw [ez]; exact hget, by omega, ?_⟩
 have hg : grpL q n i = partL (q.one ((i % T) / q.Q) ((i % T) % q.Q)) (i / T * n) n := by
  unfold grpL
  rw [<- hT, List.getD_eq_getElem?_getD, h3]; rfl
 have hgl : (grpL q n i).length = n := by
  rw [hg]
  refine partL_len ?_
  rw [hln]
  have := Nat.mul_le_mul_right n (Nat.succ_le_of_lt c1)
  rw [Nat.succ_mul] at this
  exact this
 refine valsQ_at (by omega) ?_
 rw [hg, List.getD_eq_getElem?_getD, partL_at hk, List.getElem?_eq_getElem hb, hz, ez]
 rfl
theorem PoolM.out {m : ModL} {l : LayL} {x : List Rat} {q : Win} {n T i : Nat} (h : PoolM m l x q n T) (f : List Rat -> Rat) (hi : i < q.C * T) : (poolQ f q.C n q.all x).getD i 0 = f (valsQ (grpL q n i) x) := by
 obtain ⟨c1, c2, e⟩ := h.split hi
 have hT := h.hT
 unfold poolQ
 rw [<- hT, List.getD_eq_getElem?_getD, e, flat_get _ _ T _ _ (fun i _ => by simp) c1 c2, <- e, List.getElem?_map, List.getElem?_range c2]
 unfold grpL poolAt
 rw [<- hT]
 rfl
theorem PoolM.len {m : ModL} {l : LayL} {x : List Rat} {q : Win} {n T : Nat} (h : PoolM m l x q n T) (f : List Rat -> Rat) : (poolQ f q.C n q.all x).length = q.C * T := by
 unfold poolQ
 rw [<- h.hT]
 exact flat_len _ _ _ (fun i _ => by simp)
theorem PoolM.glen {m : ModL} {l : LayL} {x : List Rat} {q : Win} {n T i : Nat} (h : PoolM m l x q n T) (hi : i < q.C * T) : (valsQ (grpL q n i) x).length = n := by
 obtain ⟨c1, c2, e⟩ := h.split hi
 rw [valsQ_len]
 unfold grpL
 rw [<- h.hT]
 refine partL_len ?_
 have hc2 : i % T < q.all.length := by have := h.hT; omega
 rw [List.getD_eq_getElem?_getD, List.getElem?_eq_getElem hc2]
 show _ <= (q.all[i % T]).length
 rw [h.lens _ (List.getElem_mem hc2)]
 have := Nat.mul_le_mul_right n (Nat.succ_le_of_lt c1)
 rw [Nat.succ_mul] at this
 exact this
def topQ (v : List Rat) : Nat -> Rat
 | 0 => v.getD 0 0
 | k + 1 => maxQ (topQ v k) (v.getD k 0)
def adsQ (v : List Rat) : Nat -> Rat
 | 0 => 0
 | k + 1 => adsQ v k + v.getD k 0
theorem maxQ_self (q : Rat) : maxQ q q = q := by unfold maxQ; split <;> rfl
theorem topQ_eq (v : List Rat) : ∀ k, topQ v (k + 1) = pmax v k
 | 0 => maxQ_self _
 | k + 1 => by
  show maxQ (topQ v (k + 1)) (v.getD (k + 1) 0) = maxQ (pmax v k) (v.getD (k + 1) 0)
  rw [topQ_eq v k]
theorem adsQ_eq (v : List Rat) : ∀ k, adsQ v (k + 1) = padd v k
 | 0 => by show 0 + v.getD 0 0 = v.getD 0 0; rw [Rat.zero_add]
 | k + 1 => by
  show adsQ v (k + 1) + v.getD (k + 1) 0 = padd v k + v.getD (k + 1) 0
  rw [adsQ_eq v k]
theorem topQ_max {v : List Rat} {n : Nat} (h : v.length = n) (hn : 1 <= n) : topQ v n = maxL v := by
 obtain ⟨k, rfl⟩ : ∃ k, n = k + 1 := ⟨n - 1, by omega⟩
 rw [topQ_eq, maxL, h]; rfl
theorem adsQ_avg {v : List Rat} {n : Nat} (h : v.length = n) (hn : 1 <= n) : adsQ v n / ((n : Int) : Rat) = avgL v := by
 obtain ⟨k, rfl⟩ : ∃ k, n = k + 1 := ⟨n - 1, by omega⟩
 rw [adsQ_eq, avgL, h]; rfl
theorem ConvM.at {m : ModL} {l : LayL} {x : List Rat} {q : Win} {O n T k c : Nat} (h : ConvM m l x q O n T) (hk : k < n) (hc : c < T) : ∃ d : Int, (gatherOf q.all)[k * T + c]? = some d /\ (q.all.getD c []).getD k 0 = d /\ d < (x.length : Int) := by
 have hT := h.hT
 have hc2 : c < q.all.length := by omega
 obtain ⟨_, _, _, h3⟩ := q.all_pos hc2
 have hmem := List.mem_of_getElem? h3
 have hln := h.lens _ hmem
 have hb : k < (q.one (c / q.Q) (c % q.Q)).length := by omega
 have hg := gather_get h.ok (r := k) (by rw [h.one]; exact hk) hc2 h3 (List.getElem?_eq_getElem hb)
 rw [<- hT] at hg
 refine ⟨_, hg, ?_, h.lt _ hmem _ (List.getElem_mem hb)⟩
 have e : q.all.getD c [] = q.one (c / q.Q) (c % q.Q) := by rw [List.getD_eq_getElem?_getD, h3]; rfl
 rw [e, List.getD_eq_getElem?_getD, List.getElem?_eq_getElem hb]
 rfl
theorem ConvM.glen {m : ModL} {l : LayL} {x : List Rat} {q : Win} {O n T : Nat} (h : ConvM m l x q O n T) : (gatherOf q.all).length = n * T := by rw [gather_len h.ok, h.one, <- h.hT]
theorem ConvM.len {m : ModL} {l : LayL} {x : List Rat} {q : Win} {O n T : Nat} (h : ConvM m l x q O n T) : (convQ O (bq l) (wq l) n q.all x).length = O * T := by
 unfold convQ
 rw [<- h.hT]
 exact flat_len _ _ _ (fun i _ => by simp)
theorem part_getD {l : List Rat} {lo n j : Nat} (hj : j < n) : (partL l lo n).getD j 0 = l.getD (lo + j) 0 := by
 rw [List.getD_eq_getElem?_getD, partL_at hj, List.getD_eq_getElem?_getD]
theorem conv_room {l : LayL} {x : List Rat} {D : Nat} (hsm : SmallL l) (hD : 0 < D) (hB : BdL D 18446744073709551616 x) (hR : RoomK 12 D 18446744073709551616) :
  (∀ q ∈ x, RatLe (ratL q) 524285) /\ (∀ p ∈ wq l, RatLe (ratL p) 524285) /\ (∀ p ∈ wq l, ∀ q ∈ x, RatLe (ratL (p * q)) 524285) /\
   (∀ (o lo n : Nat) (ix : List Int) (k : Nat), k <= 262144 -> RatLe (ratL (psum ((bq l).getD o 0) (partL (wq l) lo n) 0 ix x k)) 524285) := by
 have hR := hR.now
 have pp : D * 1 <= D * WQ := Nat.mul_le_mul_left _ one_le_WQ
 rw [Nat.mul_one] at pp
 obtain ⟨W, w1, w2, w3⟩ := BdL.small _ hsm.num
 have hwW : BdL W 18446744073709551616 (wq l) := fun q hq => w3 q (List.mem_append_left _ hq)
 have hbW : BdL W 18446744073709551616 (bq l) := fun q hq => w3 q (List.mem_append_right _ hq)
 have hWD : W * D <= D * WQ := by
  rw [Nat.mul_comm]
  exact Nat.mul_le_mul_left _ (le_WQ w2 hsm.len)
 have hWD1 : W <= W * D := Nat.le_mul_of_pos_right _ hD
 refine ⟨fun q hq => hR.bd (hB q hq) pp (by omega), fun p hp => hR.bd (hwW p hp) (by omega) (by omega), fun p hp q hq => hR.bd ((hwW p hp).mul (hB q hq)) hWD (by omega), fun o lo n ix k hk => ?_⟩
 exact hR.bd (Bd.psum (hbW.at w1 o) (hwW.part lo n) hB hD 0 ix k) hWD (grow_le hk (by omega))
theorem pool_room {x : List Rat} {D : Nat} (hD : 0 < D) (hB : BdL D 18446744073709551616 x) (hR : RoomK 12 D 18446744073709551616) (ix : List Int) :
  (∀ q ∈ x, RatLe (ratL q) 524285) /\ (∀ k, RatLe (ratL (topQ (valsQ ix x) k)) 524285) /\ (∀ k, k <= 262144 -> RatLe (ratL (adsQ (valsQ ix x) k)) 524285) := by
 have hR := hR.now
 have pp : D * 1 <= D * WQ := Nat.mul_le_mul_left _ one_le_WQ
 rw [Nat.mul_one] at pp
 have hv := BdL.vals hB hD ix
 have htop : ∀ k, Bd D 18446744073709551616 (topQ (valsQ ix x) k) := by
  intro k
  cases k with
  | zero => exact hv.at hD 0
  | succ k => rw [topQ_eq]; exact Bd.pmax hv hD k
 have hadd : ∀ k, Bd D (k * 18446744073709551616) (adsQ (valsQ ix x) k) := by
  intro k
  cases k with
  | zero => rw [Nat.zero_mul]; exact Bd.zero hD
  | succ k => rw [adsQ_eq]; exact Bd.padd hv hD k
 refine ⟨fun q hq => hR.bd (hB q hq) pp (by omega), fun k => hR.bd (htop k) pp (by omega), fun k hk => hR.bd (hadd k) pp ?_⟩
 have := Nat.mul_le_mul_right 18446744073709551616 hk
 omega
def RunN (w : World) (N : Nat) (Y : List RatL) (e : Ending) (w' : World) : Prop := ∃ a c, e = .returned (.tuple #[.slice a N c, .int .i64 0]) /\ RatsAt w' a Y /\ Below w.heap.size w w'
theorem run_n {w w' : World} {e : Ending} {Y : List RatL} {N : Nat} (h : RunPost w (Y, 0) e w') (hn : Y.length = N) : RunN w N Y e w' := by
 obtain ⟨a, c, h1, h2, h3, h4⟩ := h
 subst hn
 exact ⟨a, c, h1, h3, h4⟩
theorem evRun1 {w : World} {m : ModL} {l : LayL} {a1 a2 ax : Option Addr} {L : List RatL} (c1 c2 cx : Nat) (hm : m.layers = [l]) (h1 : Ints w Any a1 m.input) (h2 : LaysAt w a2 m.layers) (hr : ∀ l ∈ m.layers, LayRange l) (hs : ∀ l ∈ m.layers, LayLe l)
  (hX : RatsAt w ax L) (hsm : SmallL l) (hn : numB L = true) : Calls Tryz.prog 17 #[.agg #[.slice a1 m.input.length c1, .slice a2 m.layers.length c2], .slice ax L.length cx] w (RunPost w (runL m (L.map ratOf))) := by
 obtain ⟨hb, D, hD, hB, hR⟩ := one_room hn
 have hX' := hX
 rw [hb] at hX'
 have hl : m.layers.length = 1 := by rw [hm]; rfl
 have hsm' : ∀ l' ∈ m.layers, SmallL l' := fun l' h => by rw [hm] at h; simp at h; subst h; exact hsm
 have hR' : RoomK ((12 - m.layers.length) + m.layers.length) D 18446744073709551616 := by rw [Nat.sub_add_cancel (by omega)]; exact hR
 have h := evRun (x := L.map ratOf) c1 c2 cx h1 h2 hr hs hX' hsm' hB hD (by omega) (by omega) hR (by rw [List.length_map]; have := (numB_little hn).2; omega) (fun l hl => Nat.le_trans (trace_len hR' hB hD (by omega) hsm' l hl) (by omega))
 rw [List.length_map] at h
 exact h
end Go.Proofs.YtoppijdedkdjeaaGreat

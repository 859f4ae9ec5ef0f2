/-
  The walk of the statement Im2colTiles.
-/
import Derived.Test.YtcgpidicegbnoaaColE
import Derived.Test.YtcgpidicegbnoaaColH
import Derived.Test.YtcgpidicegbnoaaRoundQ
namespace Go.Proofs.Ytcgpidicegbnoaa
open Go.RowKit Go.Shelf
attribute [local go_sem] Oper.semAt_some

theorem IterOk.mono {F : Fence} {n : Nat} {P : Program} {gf : Nat} {lb : Array Value} {N : Nat} {Cx Cx' : Nat → Array Value → World → Prop} {Pr : Nat → Prop} {W0 : World} (h : IterOk F n P gf lb N Cx Pr W0) (hc : ∀ k xs A, k < N → Cx k xs A → Cx' k xs A) :
    IterOk F n P gf lb N Cx' Pr W0 := fun l I Ix W a b c d e => h l I Ix W a b c (fun k A xs hi hk hx => d k A xs hi hk (hc k xs A hk hx)) e

/-- What the iterator yields in round k, where L holds the tiles' cells. -/
def TileAt (L : List Value) (k : Nat) (xs : Array Value) : Prop :=
  ∃ t0 t1 t2 t3 : Int, xs = #[.agg #[.int .i64 t0, .int .i64 t1, .int .i64 t2, .int .i64 t3]] ∧ L[k * 4]? = some (.int .i64 t0) ∧ L[k * 4 + 1]? = some (.int .i64 t1) ∧ L[k * 4 + 2]? = some (.int .i64 t2) ∧ L[k * 4 + 3]? = some (.int .i64 t3)

theorem tilesFlat_len (rows cols h wd n : Nat) : (tilesFlat rows cols h wd n).length = n * 4 := by
  induction n with
  | zero => rfl
  | succ n ih =>
    have : tilesFlat rows cols h wd (n + 1) = tilesFlat rows cols h wd n ++ tileL rows cols h wd n := by unfold tilesFlat; rw [List.range_succ]; simp
    rw [this, List.length_append, ih, Nat.succ_mul]; rfl
theorem tilesFlat_at (rows cols h wd : Nat) : ∀ n k, k < n → ∀ j, j < 4 → (tilesFlat rows cols h wd n)[k * 4 + j]? = (tileL rows cols h wd k)[j]? := by
  intro n
  induction n with
  | zero => intro k hk; omega
  | succ n ih =>
    intro k hk j hj
    have : tilesFlat rows cols h wd (n + 1) = tilesFlat rows cols h wd n ++ tileL rows cols h wd n := by unfold tilesFlat; rw [List.range_succ]; simp
    rw [this]
    by_cases hkn : k < n
    · rw [List.getElem?_append_left (by rw [tilesFlat_len]; omega)]
      exact ih k hkn j hj
    · obtain rfl : k = n := by omega
      rw [List.getElem?_append_right (by rw [tilesFlat_len]; omega), tilesFlat_len]
      congr 1; omega
theorem tileAt_flat {rows cols h wd n k : Nat} (hk : k < n) : TileAt (tilesFlat rows cols h wd n) k #[tileV rows cols h wd k] :=
  ⟨_, _, _, _, rfl, tilesFlat_at rows cols h wd n k hk 0 (by omega), tilesFlat_at rows cols h wd n k hk 1 (by omega), tilesFlat_at rows cols h wd n k hk 2 (by omega), tilesFlat_at rows cols h wd n k hk 3 (by omega)⟩

/-- The reference's tiles, and an iterator that yields the same. -/
theorem rTilesAny (m0 m1 m2 m3 : Int) (h0 : m0 ≤ 12) (h1 : m1 ≤ 12) (h2 : m2 ≤ 9223372036854775807) (h3 : m3 ≤ 9223372036854775807) (w : World) :
    Calls Try.prog 37 #[.int .i64 m0, .int .i64 m1, .int .i64 m2, .int .i64 m3] w fun e w' =>
      ∃ v N L, e = .returned v ∧ w'.ownsRow w.heap.size 59 4 v N L ∧ Below w.heap.size w w' ∧
        ∀ (b : Nat) (Pr : Nat → Prop) (W0 : World), Pr b → Pr (b + 1) → Pr (b + 2) → Pr (b + 3) →
          W0.cell? ⟨b, 0, none⟩ = some (.int .i64 m0) → W0.cell? ⟨b + 1, 0, none⟩ = some (.int .i64 m1) → W0.cell? ⟨b + 2, 0, none⟩ = some (.int .i64 m2) → W0.cell? ⟨b + 3, 0, none⟩ = some (.int .i64 m3) →
          IterOk Fence.wide (5 - 1) Try.prog 42 #[.pointer (some ⟨b, 0, none⟩), .pointer (some ⟨b + 1, 0, none⟩), .pointer (some ⟨b + 2, 0, none⟩), .pointer (some ⟨b + 3, 0, none⟩)] N (fun k xs _ => TileAt L k xs) Pr W0 := by
  by_cases hno : m0 < 1 ∨ m1 < 1 ∨ m2 < 1 ∨ m3 < 1
  · refine (rTilesNone m0 m1 m2 m3 hno w).mono ?_
    rintro e w' ⟨rfl, rfl⟩
    exact ⟨_, 0, [], rfl, ⟨rfl, .inl ⟨rfl, rfl⟩⟩, Below.refl _ _, fun b Pr W0 p0 p1 p2 p3 c0 c1 c2 c3 => tilesIterNone Fence.wide (5 - 1) trivial rfl b m0 m1 m2 m3 hno _ Pr p0 p1 p2 p3 W0 c0 c1 c2 c3⟩
  · obtain ⟨rows, rfl⟩ : ∃ n : Nat, m0 = n := ⟨m0.toNat, by omega⟩
    obtain ⟨cols, rfl⟩ : ∃ n : Nat, m1 = n := ⟨m1.toNat, by omega⟩
    obtain ⟨h, rfl⟩ : ∃ n : Nat, m2 = n := ⟨m2.toNat, by omega⟩
    obtain ⟨wd, rfl⟩ : ∃ n : Nat, m3 = n := ⟨m3.toNat, by omega⟩
    refine (rTiles rows cols h wd (by omega) (by omega) (by omega) (by omega) (by omega) (by omega) (by omega) (by omega) w).mono ?_
    rintro e w' ⟨v, rfl, hO, hB⟩
    exact ⟨v, _, _, rfl, hO, hB, fun b Pr W0 p0 p1 p2 p3 c0 c1 c2 c3 =>
      (tilesIter Fence.wide (5 - 1) trivial rfl (by omega) b rows cols h wd (by omega) (by omega) (by omega) (by omega) (by omega) (by omega) (by omega) (by omega) Pr p0 p1 p2 p3 W0 c0 c1 c2 c3).mono
        (fun k xs _ hk hx => by subst hx; exact tileAt_flat hk)⟩

/-- The three blocks of the law's own: the matrix, the stop, the result. -/
structure Own3 (w : World) (m0 m1 m2 m3 : Int) (st : Nat) (W : World) : Prop where
  c0 : W.heap[w.heap.size]? = some (.cells #[.int .i64 m0, .int .i64 m1, .int .i64 m2, .int .i64 m3] 51 (0, 0))
  c1 : W.heap[w.heap.size + 1]? = some (.cells #[.int .u8 st] 5 (0, 0))
  c2 : W.heap[w.heap.size + 1 + 1]? = some (.cells #[.bool false] 4 (0, 0))
  sz : w.heap.size + 3 ≤ W.heap.size
  be : Below w.heap.size w W

theorem Own3.below {w W V : World} {m0 m1 m2 m3 : Int} {st : Nat} (h : Own3 w m0 m1 m2 m3 st W) (hb : Below W.heap.size W V) : Own3 w m0 m1 m2 m3 st V := by
  have := h.sz
  exact ⟨(hb.block _ (by omega)).trans h.c0, (hb.block _ (by omega)).trans h.c1, (hb.block _ (by omega)).trans h.c2, Nat.le_trans h.sz hb.size, h.be.trans (hb.mono (by omega))⟩
theorem Own3.start (w : World) (m0 m1 m2 m3 : Int) (st : Nat) : Own3 w m0 m1 m2 m3 st (((w.alloc (.cells #[.int .i64 m0, .int .i64 m1, .int .i64 m2, .int .i64 m3] 51)).alloc (.cells #[.int .u8 st] 5)).alloc (.cells #[.bool false] 4)) := by
  refine ⟨?_, ?_, ?_, by simp, ((((Below.refl _ w).alloc (Nat.le_refl _) _).alloc (by simp) _).alloc (by simp; omega) _)⟩
  · show (((w.heap.push _).push _).push _)[_]? = _
    simp only [Array.getElem?_push, Array.size_push]; rw [if_neg (by omega), if_neg (by omega), if_pos (by first | trivial | omega)]
  · show (((w.heap.push _).push _).push _)[_]? = _
    simp only [Array.getElem?_push, Array.size_push]; rw [if_neg (by omega), if_pos (by first | trivial | omega)]
  · show (((w.heap.push _).push _).push _)[_]? = _
    simp only [Array.getElem?_push, Array.size_push]; rw [if_pos (by first | trivial | omega)]

set_option maxRecDepth 100000 in
set_option maxHeartbeats 3200000 in
theorem lawIm2colTiles (m0 m1 m2 m3 : Int) (hm0 : -9223372036854775808 ≤ m0 ∧ m0 ≤ 9223372036854775807) (hm1 : -9223372036854775808 ≤ m1 ∧ m1 ≤ 9223372036854775807) (hm2 : -9223372036854775808 ≤ m2 ∧ m2 ≤ 9223372036854775807) (hm3 : -9223372036854775808 ≤ m3 ∧ m3 ≤ 9223372036854775807)
    (st : Nat) (hst : st ≤ 255) (w : World) :
    Calls Try.prog 14 #[.agg #[.int .i64 m0, .int .i64 m1, .int .i64 m2, .int .i64 m3], .int .u8 st] w fun e w' => e = .returned (.bool true) ∧ Below w.heap.size w w' := by
  have H0 := Lib.hid (Own3.start w m0 m1 m2 m3 st)
  refine (callsIn_wide (n := 5)).1 ?_
  refine callsIn_of_wp_marks Try.func14 rfl trivial ?_ rfl
  simp only [Try.ntmps14, List.size_toArray, List.length_cons, List.length_nil, Nat.reduceAdd, Nat.reduceSub, Array.replicate_succ, Array.replicate_zero, List.push_toArray, List.append_toArray, List.nil_append, List.cons_append]
  gi_wp2_with fail
  refine ⟨trivial, (callsIn_wide.2 (awake53 _)).mono ?_⟩
  rintro e w1 ⟨rfl, hb1⟩
  have H1 := Lib.hid (H0.out.below hb1)
  clear hb1 H0
  obtain ⟨a0, a1, a2, a3⟩ := cellOf4 H1.out.c0
  have b0 := cellOf H1.out.c1
  have d0 := cellOf H1.out.c2
  have f0 := frozenOf H1.out.c2
  by_cases hsm : m0 > 12 ∨ m1 > 12
  · have hc5 := World.cell?_setCell_same' w1 ⟨w.heap.size + 1 + 1, 0, none⟩ (.bool true) (by rw [d0]; rfl)
    have HC5 := Lib.hid hc5
    have HB5 : Hid (Below w.heap.size w (w1.setCell ⟨w.heap.size + 1 + 1, 0, none⟩ (.bool true))) := H1.out.be.setCell (p := ⟨w.heap.size + 1 + 1, 0, none⟩) (by simp; omega) _
    clear hc5
    by_cases hx : m0 > 12
    · gi_wp2
      refine ⟨.bool true, ?_, rfl, HB5.out⟩
      have := HC5.out
      simp [results, Try.f14, go_sem, this]
    · have hy : m1 > 12 := by omega
      gi_wp2
      refine ⟨.bool true, ?_, rfl, HB5.out⟩
      have := HC5.out
      simp [results, Try.f14, go_sem, this]
  have hx : ¬ m0 > 12 := by omega
  have hy : ¬ m1 > 12 := by omega
  clear hsm
  gi_wp2_with fail
  refine ⟨trivial, (callsIn_wide.2 (rTilesAny m0 m1 m2 m3 (by omega) (by omega) (by omega) (by omega) w1)).mono ?_⟩
  rintro e w2 ⟨v, N, L, rfl, hO, hb2, hit⟩
  have H2 := Lib.hid (H1.out.below hb2)
  obtain ⟨av, cv, rfl⟩ : ∃ a c, v = .slice a N c := by
    rcases hO.2 with ⟨rfl, rfl⟩ | ⟨g, cap, cur, rfl, _⟩
    · exact ⟨none, 0, rfl⟩
    · exact ⟨_, _, rfl⟩
  have HO := Lib.hid hO
  have HIT := Lib.hid hit
  clear hO hb2 hit a0 a1 a2 a3 b0 d0 f0 H1
  have hS2 : w.heap.size + 3 ≤ w2.heap.size := H2.out.sz
  have A : ∀ o o', ((w2.alloc o).alloc o').cell? ⟨w.heap.size, 0, none⟩ = some (.int .i64 m0) ∧ ((w2.alloc o).alloc o').cell? ⟨w.heap.size, 0 + 1, none⟩ = some (.int .i64 m1) ∧ ((w2.alloc o).alloc o').cell? ⟨w.heap.size, 0 + 2, none⟩ = some (.int .i64 m2) ∧ ((w2.alloc o).alloc o').cell? ⟨w.heap.size, 0 + 3, none⟩ = some (.int .i64 m3) := fun o o' =>
    cellOf4 (H2.out.below (((Below.refl _ w2).alloc (Nat.le_refl _) o).alloc (by simp) o')).c0
  have a0 := fun o o' => (A o o').1
  have a1 := fun o o' => (A o o').2.1
  have a2 := fun o o' => (A o o').2.2.1
  have a3 := fun o o' => (A o o').2.2.2
  clear A
  gi_wp2_with fail
  refine ⟨trivial, (callsIn_wide.2 (tTiles m0 m1 m2 m3 _)).mono ?_⟩
  rintro e w5 ⟨rfl, hw5⟩
  have HW5 := Lib.hid hw5
  clear hw5 a0 a1 a2 a3
  gi_wp2_with fail
  have hsz5 : w5.heap.size = w2.heap.size + 6 := by rw [HW5.out]; simp
  have hb5 : Below w2.heap.size w2 w5 := by
    rw [HW5.out]
    exact (((((((Below.refl _ w2).alloc (Nat.le_refl _) _).alloc (by simp) _).alloc (by simp; omega) _).alloc (by simp; omega) _).alloc (by simp; omega) _).alloc (by simp; omega) _)
  have H5 := Lib.hid (H2.out.below hb5)
  have hhdr : w5.heap[w2.heap.size]? = some (.cells #[.slice av N cv] 52 (0, 0)) := by
    rw [HW5.out]
    show ((((((w2.heap.push _).push _).push _).push _).push _).push _)[w2.heap.size]? = _
    simp only [Array.getElem?_push, Array.size_push]
    rw [if_neg (by omega), if_neg (by omega), if_neg (by omega), if_neg (by omega), if_neg (by omega), if_pos (by first | trivial | omega)]
  have hcnt : w5.heap[w2.heap.size + 1]? = some (.cells #[.int .i64 0] 3 (0, 0)) := by
    rw [HW5.out]
    show ((((((w2.heap.push _).push _).push _).push _).push _).push _)[w2.heap.size + 1]? = _
    simp only [Array.getElem?_push, Array.size_push]
    rw [if_neg (by omega), if_neg (by omega), if_neg (by omega), if_neg (by omega), if_pos (by first | trivial | omega)]
  have hbx : w5.cell? ⟨w2.heap.size + 1 + 1, 0, none⟩ = some (.int .i64 m0) ∧ w5.cell? ⟨w2.heap.size + 1 + 1 + 1, 0, none⟩ = some (.int .i64 m1) ∧ w5.cell? ⟨w2.heap.size + 1 + 1 + 2, 0, none⟩ = some (.int .i64 m2) ∧ w5.cell? ⟨w2.heap.size + 1 + 1 + 3, 0, none⟩ = some (.int .i64 m3) := by
    rw [HW5.out]
    refine ⟨?_, ?_, ?_, ?_⟩
    · exact cellOf (show ((((((w2.heap.push _).push _).push _).push _).push _).push _)[_]? = _ from by simp only [Array.getElem?_push, Array.size_push]; rw [if_neg (by omega), if_neg (by omega), if_neg (by omega), if_pos (by first | trivial | omega)])
    · exact cellOf (show ((((((w2.heap.push _).push _).push _).push _).push _).push _)[_]? = _ from by simp only [Array.getElem?_push, Array.size_push]; rw [if_neg (by omega), if_neg (by omega), if_pos (by first | trivial | omega)])
    · exact cellOf (show ((((((w2.heap.push _).push _).push _).push _).push _).push _)[_]? = _ from by simp only [Array.getElem?_push, Array.size_push]; rw [if_neg (by omega), if_pos (by first | trivial | omega)])
    · exact cellOf (show ((((((w2.heap.push _).push _).push _).push _).push _).push _)[_]? = _ from by simp only [Array.getElem?_push, Array.size_push]; rw [if_pos (by first | trivial | omega)])
  obtain ⟨x0, x1, x2, x3⟩ := hbx
  have hit := HIT.out (w2.heap.size + 1 + 1) (fun b => b < w5.heap.size ∧ b ≠ w2.heap.size + 1) w5 ⟨by omega, by omega⟩ ⟨by omega, by omega⟩ ⟨by omega, by omega⟩ ⟨by omega, by omega⟩ x0 x1 x2 x3
  clear x0 x1 x2 x3
  have h52 : Hid (w5.heap[w2.heap.size]? = some (.cells #[.slice av N cv] 52 (0, 0))) := hhdr
  refine wpIn_iter rfl (by omega) (gf := 42) (lb := _) rfl trivial (enters_of Try.func42 (by kernel_rfl) rfl) hit (fun b hb => hb.1)
    (fun k xs _ h => by obtain ⟨_, _, _, _, rfl, _⟩ := h; rfl)
    (fun k W => W.heap[w2.heap.size + 1]? = some (.cells #[.int .i64 (k : Int)] 3 (0, 0)) ∧ k ≤ st)
    (fun c W => c = .exit 0 ∧ W.heap[w2.heap.size + 1]? = some (.cells #[.int .i64 ((st + 1 : Nat) : Int)] 3 (0, 0)) ∧ st + 1 ≤ N)
    (fun k A B row h hg hr => ⟨own_block A B row h.1 hg hr, h.2⟩)
    (fun c _ A B row h hg hr => ⟨h.1, own_block A B row h.2.1 hg hr, h.2.2⟩)
    ⟨hcnt, by omega⟩ ?body ?done ?stop
  case done =>
    rintro D W hD ⟨hc, hk⟩ hH hK
    have h3 := H5.out.sz
    have HW3 : W.heap[w.heap.size + 1 + 1]? = some (.cells #[.bool false] 4 (0, 0)) := (hH.block _ ⟨by omega, by omega⟩).trans H5.out.c2
    have HW1 : W.heap[w.heap.size + 1]? = some (.cells #[.int .u8 st] 5 (0, 0)) := (hH.block _ ⟨by omega, by omega⟩).trans H5.out.c1
    have HWh := (hH.block _ ⟨by omega, by omega⟩).trans h52.out
    have c0 := cellOf HW3
    have f0 := frozenOf HW3
    have c1 := cellOf HW1
    have c2 := cellOf HWh
    have c3 := cellOf hc
    have HBW : Hid (Below w.heap.size w W) := H5.out.be.trans (hH.below (fun b hb => ⟨by omega, by omega⟩))
    have HKk := Lib.hid hK
    clear HW3 HW1 HWh hH hK hc
    have hlt : ¬ ((st : Int) + 1 < (N : Int)) := by omega
    gi_wp2
    have hK' := (KeepsOthers.setCell W ⟨w.heap.size + 1 + 1, 0, none⟩ (.bool true)).same D _ HKk.out rfl
    refine ⟨by simp, .inl ⟨_, _, rfl, run_takeDeferred hK', ?_⟩⟩
    have hc5 := cell_kept (World.cell?_setCell_same' W ⟨w.heap.size + 1 + 1, 0, none⟩ (.bool true) (by rw [c0]; rfl)) (grownBy_putObj' _ D (.deferred none)) (fun r e => by cases e; exact ⟨_, hK', rfl⟩)
    refine ⟨.bool true, ?_, rfl, ?_⟩
    · simp [results, Try.f14, go_sem, hc5]
    · exact ((HBW.out.setCell (p := ⟨w.heap.size + 1 + 1, 0, none⟩) (by simp; omega) _).trans (belowK_b (w := w) (Nat.le_refl _) _ D _ _ (by omega) hK' rfl rfl))
  case stop =>
    rintro D c W hD ⟨rfl, hc, hk⟩ hH hK
    have h3 := H5.out.sz
    have HW3 : W.heap[w.heap.size + 1 + 1]? = some (.cells #[.bool false] 4 (0, 0)) := (hH.block _ ⟨by omega, by omega⟩).trans H5.out.c2
    have HW1 : W.heap[w.heap.size + 1]? = some (.cells #[.int .u8 st] 5 (0, 0)) := (hH.block _ ⟨by omega, by omega⟩).trans H5.out.c1
    have HWh := (hH.block _ ⟨by omega, by omega⟩).trans h52.out
    have c0 := cellOf HW3
    have f0 := frozenOf HW3
    have c1 := cellOf HW1
    have c2 := cellOf HWh
    have c3 := cellOf hc
    have HBW : Hid (Below w.heap.size w W) := H5.out.be.trans (hH.below (fun b hb => ⟨by omega, by omega⟩))
    have HKk := Lib.hid hK
    clear HW3 HW1 HWh hH hK hc
    have hmn : (if (st : Int) + 1 < (N : Int) then (st : Int) + 1 else (N : Int)) = (st : Int) + 1 := by split <;> omega
    gi_wp2
    have hK' := (KeepsOthers.setCell W ⟨w.heap.size + 1 + 1, 0, none⟩ (.bool true)).same D _ HKk.out rfl
    refine ⟨by simp, .inl ⟨_, _, rfl, run_takeDeferred hK', ?_⟩⟩
    have hc5 := cell_kept (World.cell?_setCell_same' W ⟨w.heap.size + 1 + 1, 0, none⟩ (.bool true) (by rw [c0]; rfl)) (grownBy_putObj' _ D (.deferred none)) (fun r e => by cases e; exact ⟨_, hK', rfl⟩)
    refine ⟨.bool true, ?_, rfl, ?_⟩
    · simp [results, Try.f14, go_sem, hc5]
    · exact ((HBW.out.setCell (p := ⟨w.heap.size + 1 + 1, 0, none⟩) (by simp; omega) _).trans (belowK_b (w := w) (Nat.le_refl _) _ D _ _ (by omega) hK' rfl rfl))
  case body =>
    rintro l k xs W ⟨hc, hk⟩ hkN ⟨t0, t1, t2, t3, rfl, e0, e1, e2, e3⟩ hH
    obtain ⟨g, cap, cur, hv, hbg, hg, hnc, hcm, hcs, hxs⟩ := HO.out.2.resolve_left (by rintro ⟨_, rfl⟩; omega)
    obtain rfl : av = some ⟨g, 0, none⟩ := by cases hv; rfl
    have hrd := HO.out.cells (g := g) rfl
    have hgl : g < w2.heap.size := (Array.getElem?_eq_some_iff.1 hg).1
    have h3 := H5.out.sz
    have HC := Lib.hid hc
    have HH := Lib.hid hH
    clear hH hc
    gi_wp2
    have hHa : Held (fun b => b < w5.heap.size ∧ b ≠ w2.heap.size + 1) W (W.alloc (.cells #[.int .i64 t0, .int .i64 t1, .int .i64 t2, .int .i64 t3] 58)) := (Held.refl _ W).alloc (fun b hb => by have := HH.out.size; omega) _
    refine ⟨KeepsOthers.alloc _ _, hHa, fun A => A.heap[w2.heap.size + 1]? = some (.cells #[.int .i64 (k : Int)] 3 (0, 0)) ∧ A.heap[W.heap.size]? = some (.cells #[.int .i64 t0, .int .i64 t1, .int .i64 t2, .int .i64 t3] 58 (0, 0)),
      fun _ A B row h hg hr => ⟨own_block A B row h.1 hg hr, own_block A B row h.2 hg hr⟩,
      ⟨(Below.heap_alloc _ _ _ (Array.getElem?_eq_some_iff.1 HC.out).1).trans HC.out, heap_alloc_new W _⟩, ?_⟩
    rintro W2 ⟨hc2, hb2⟩ hH2
    have c0 : W2.cell? ⟨w2.heap.size + 1, 0, none⟩ = some (.int .i64 k) := cellOf hc2
    have f0 := frozenOf hc2
    obtain ⟨b0, b1, b2, b3⟩ := cellOf4 hb2
    have c1 := cellOf ((hH2.block (w.heap.size + 1) ⟨by omega, by omega⟩).trans H5.out.c1)
    have c2 := cellOf ((hH2.block w2.heap.size ⟨by omega, by omega⟩).trans h52.out)
    have hrow : ∀ j u, L[j]? = some u → W2.cell? ⟨g, j, none⟩ = some u := fun j u hj => by
      rw [hH2.cell (p := ⟨g, j, none⟩) ⟨by simp; omega, by simp; omega⟩, hb5.cell (p := ⟨g, j, none⟩) (by simpa using hgl)]
      simpa [Addr.add_lit] using hrd j u hj
    have r0 := hrow _ _ e0
    have r1 := hrow _ _ e1
    have r2 := hrow _ _ e2
    have r3 := hrow _ _ e3
    have HC2 := Lib.hid hc2
    have hkN' : (k : Int) < (N : Int) := by omega
    clear hrow hc2 hb2 hH2 hrd e0 e1 e2 e3
    gi_wp2
    refine wpIn_region_quiet_round rfl (by kernel_rfl) (by kernel_rfl) (by kernel_rfl) ?_
    have hge : decide (N ≤ k) = false := by simp; omega
    have hge2 : ¬ N ≤ k := by omega
    repeat (quiet_step_in (fail))
    refine wpQuietIn_nil ?_
    intro _ hw'
    obtain ⟨nq, hw''⟩ := hw'
    subst hw''
    gi_wp2
    all_goals
      refine ⟨(show KeepsOthers W2 (W2.drewN nq) from ⟨Nat.le_refl _, fun _ _ h _ => h⟩).trans (KeepsOthers.setCell _ _ _), ((Held.refl _ W2).drewN nq).setCell (p := ⟨w2.heap.size + 1, 0, none⟩) (by simp) _, ?_⟩
      have hset := setHeap (w := W2.drewN nq) (u := .int .i64 ((k : Int) + 1)) HC2.out
      first
        | exact ⟨hset, by omega⟩
        | (obtain rfl : k = st := by omega
           exact ⟨rfl, hset, by omega⟩)

end Go.Proofs.Ytcgpidicegbnoaa

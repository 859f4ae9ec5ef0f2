/-
  Contracts of the functions that the statements reach, in the order in which they are built: NBase, NatA, NatB, NatC, Ext, RefA, Draw, Slots, SlotsB.
-/
import Derived.Test.YtfmhedfiklidhaaM1
import Derived.Test.YtfmhedfiklidhaaM3
set_option linter.unusedVariables false
set_option linter.unusedSimpArgs false
set_option linter.constructorNameAsVariable false
set_option linter.deprecated false

/-
  Slices of limbs in memory: a slice that reads as a list of limbs; a whole block of limbs that the call owns. No function in sight.
-/
namespace Go.Proofs.Ytfmhedfiklidhaa
open Go.RowKit

/-- The slice at a reads as the limbs l. -/
structure U32s (w : World) (a : Option Addr) (l : List Nat) : Prop where
  lim : Lim l
  len : l.length ≤ 9223372036854775807
  row : l = [] ∨ ∃ b off, a = some ⟨b, off, none⟩ ∧ b < w.heap.size ∧ ∀ (j d : Nat), l[j]? = some d → w.cell? ⟨b, off + j, none⟩ = some (.int .u32 (d : Int))

theorem U32s.nil (w : World) (a : Option Addr) : U32s w a [] := ⟨by intro d hd; simp at hd, by simp, .inl rfl⟩
theorem U32s.below {w w' : World} {a : Option Addr} {l : List Nat} (h : U32s w a l) (hb : Below w.heap.size w w') : U32s w' a l := by
  refine ⟨h.lim, h.len, h.row.imp id ?_⟩
  rintro ⟨b, off, rfl, hs, hc⟩
  exact ⟨b, off, rfl, Nat.lt_of_lt_of_le hs hb.size, fun j d hj => (hb.cell (p := ⟨b, off + j, none⟩) hs).trans (hc j d hj)⟩
theorem U32s.drewN {w : World} {a : Option Addr} {l : List Nat} (h : U32s w a l) (n : Nat) : U32s (w.drewN n) a l := ⟨h.lim, h.len, h.row⟩
theorem U32s.pick {w : World} {a : Option Addr} {l : List Nat} (h : U32s w a l) {k : Nat} (hk : k < l.length) :
    ∃ b off, a = some ⟨b, off, none⟩ ∧ b < w.heap.size ∧ w.cell? ⟨b, off + k, none⟩ = some (.int .u32 (dig l k : Int)) := by
  rcases h.row with rfl | ⟨b, off, rfl, hb, hc⟩
  · simp at hk
  · exact ⟨b, off, rfl, hb, hc k _ (at_dig hk)⟩
/-- All cells under one address. -/
theorem U32s.open {w : World} {a : Option Addr} {l : List Nat} (h : U32s w a l) (hl : l ≠ []) :
    ∃ b off, a = some ⟨b, off, none⟩ ∧ b < w.heap.size ∧ ∀ j, j < l.length → w.cell? ⟨b, off + j, none⟩ = some (.int .u32 (dig l j : Int)) := by
  rcases h.row with rfl | ⟨b, off, rfl, hb, hc⟩
  · exact absurd rfl hl
  · exact ⟨b, off, rfl, hb, fun j hj => hc j _ (at_dig hj)⟩
theorem U32s.take {w : World} {a : Option Addr} {l : List Nat} (h : U32s w a l) (n : Nat) : U32s w a (l.take n) := by
  refine ⟨fun d hd => h.lim d (List.mem_of_mem_take hd), by have := h.len; simp; omega, ?_⟩
  rcases h.row with rfl | ⟨b, off, rfl, hb, hc⟩
  · left; simp
  · right
    refine ⟨b, off, rfl, hb, fun j d hj => hc j d ?_⟩
    rw [List.getElem?_take] at hj
    split at hj
    · exact hj
    · cases hj
theorem U32s.drop {w : World} {b off : Nat} {l : List Nat} (h : U32s w (some ⟨b, off, none⟩) l) (n : Nat) : U32s w (some ⟨b, off + n, none⟩) (l.drop n) := by
  refine ⟨fun d hd => h.lim d (List.mem_of_mem_drop hd), by have := h.len; simp; omega, ?_⟩
  rcases h.row with rfl | ⟨b', off', he, hb, hc⟩
  · left; simp
  · cases he
    right
    refine ⟨b, off + n, rfl, hb, fun j d hj => ?_⟩
    rw [List.getElem?_drop] at hj
    have := hc (n + j) d hj
    rwa [← Nat.add_assoc] at this

/-- A block of limbs, known whole. -/
def rowA (n : Nat) (f : Nat → Nat) : Array Value := ((List.range n).map fun x => Value.int .u32 (f x : Int)).toArray
def Blk (w : World) (g n : Nat) (f : Nat → Nat) (T : Nat) : Prop := w.heap[g]? = some (.cells (rowA n f) T (0, 0))

theorem rowA_get (f : Nat → Nat) {n x : Nat} (hx : x < n) : (rowA n f)[x]? = some (.int .u32 (f x : Int)) := by simp [rowA, hx]
theorem rowA_set (f : Nat → Nat) (n x v : Nat) : (rowA n f).setIfInBounds x (.int .u32 (v : Int)) = rowA n (fun y => if y = x then v else f y) := by
  unfold rowA
  rw [List.setIfInBounds_toArray]
  congr 1
  apply List.ext_getElem
  · simp
  · intro i h1 h2
    rw [List.getElem_set]
    by_cases h : x = i
    · subst h; simp
    · simp [h, Ne.symm h]
theorem rowA_congr {f g : Nat → Nat} {n : Nat} (h : ∀ i, i < n → f i = g i) : rowA n f = rowA n g := by
  unfold rowA
  congr 1
  exact List.map_congr_left (fun i hi => by rw [h i (List.mem_range.1 hi)])
theorem Blk.lt {w : World} {g n : Nat} {f : Nat → Nat} {T : Nat} (h : Blk w g n f T) : g < w.heap.size := (Array.getElem?_eq_some_iff.1 h).1
theorem Blk.cell {w : World} {g n : Nat} {f : Nat → Nat} {T : Nat} (h : Blk w g n f T) {x : Nat} (hx : x < n) : w.cell? ⟨g, x, none⟩ = some (.int .u32 (f x : Int)) := by
  unfold Blk at h
  simp [World.cell?, h, rowA_get f hx]
theorem Blk.free {w : World} {g n : Nat} {f : Nat → Nat} {T : Nat} (h : Blk w g n f T) (x : Nat) : w.frozen? ⟨g, x, none⟩ = false := by
  unfold Blk at h
  simp [World.frozen?, h]
theorem Blk.set {w : World} {g n : Nat} {f : Nat → Nat} {T : Nat} (h : Blk w g n f T) (x v : Nat) : Blk (w.setCell ⟨g, x, none⟩ (.int .u32 (v : Int))) g n (fun y => if y = x then v else f y) T := by
  unfold Blk at *
  rw [← rowA_set f n x v]
  simp [World.setCell, Array.getElem?_modify, h]
theorem Blk.congr {w : World} {g n : Nat} {f f' : Nat → Nat} {T : Nat} (h : Blk w g n f T) (hf : ∀ i, i < n → f i = f' i) : Blk w g n f' T := by
  unfold Blk at *; rw [← rowA_congr hf]; exact h
theorem Blk.below {w w' : World} {g n : Nat} {f : Nat → Nat} {T : Nat} (h : Blk w g n f T) (hb : Below w.heap.size w w') : Blk w' g n f T := by
  unfold Blk at *; exact (hb.block g (Array.getElem?_eq_some_iff.1 h).1).trans h
theorem Blk.drewN {w : World} {g n : Nat} {f : Nat → Nat} {T : Nat} (h : Blk w g n f T) (k : Nat) : Blk (w.drewN k) g n f T := h
/-- It reads as its limbs. -/
theorem Blk.u32s {w : World} {g n : Nat} {f : Nat → Nat} {T : Nat} (h : Blk w g n f T) (hf : ∀ i, i < n → f i < 4294967296) (hn : n ≤ 9223372036854775807) : U32s w (some ⟨g, 0, none⟩) ((List.range n).map f) := by
  refine ⟨?_, by simpa using hn, ?_⟩
  · intro d hd
    simp only [List.mem_map, List.mem_range] at hd
    obtain ⟨i, hi, rfl⟩ := hd
    exact hf i hi
  · right
    refine ⟨g, 0, rfl, h.lt, fun j d hj => ?_⟩
    rw [List.getElem?_map] at hj
    rcases Nat.lt_or_ge j n with hlt | hge
    · rw [List.getElem?_range hlt] at hj
      simp at hj
      subst hj
      rw [Nat.zero_add]
      exact h.cell hlt
    · rw [List.getElem?_eq_none (by simpa using hge)] at hj
      cases hj

/-- What a function that hands back a number has done: the canonical limbs in memory; nothing that was there has turned. -/
def RetN (w : World) (v : Nat) (e : Ending) (w' : World) : Prop := ∃ a c, e = .returned (.slice a (limbs v).length c) ∧ (limbs v).length ≤ c ∧ U32s w' a (limbs v) ∧ Below w.heap.size w w'

end Go.Proofs.Ytfmhedfiklidhaa

/-
  The walks of natural.trim, Valid, Of: by contract.
-/
namespace Go.Proofs.Ytfmhedfiklidhaa
open Go.RowKit

set_option maxHeartbeats 800000 in
theorem nTrim_at {w : World} {a : Option Addr} {l : List Nat} (c : Nat) (hc : l.length ≤ c) (h : U32s w a l) :
    Calls Try.prog 69 #[.slice a l.length c] w fun e w' => (∃ a' c', e = .returned (.slice a' (limbs (lval l)).length c') ∧ (limbs (lval l)).length ≤ c' ∧ U32s w a' (limbs (lval l)) ∧ (a' = a ∨ limbs (lval l) = [])) ∧ w = w' := by
  have hlen := h.len
  have HU := Lib.hid h
  have HL := Lib.hid h.lim
  clear h
  go_enter Try.func69, Try.ntmps69
  go_wp2
  go_loop [3] (fun i => ∃ n : Nat, n ≤ l.length ∧ i = .int .i64 n ∧ Hid (∀ i, n ≤ i → i < l.length → dig l i = 0)) (fun i => (intOf i).toNat)
  case atStart => exact ⟨l.length, Nat.le_refl _, rfl, fun i h1 h2 => by omega⟩
  case round =>
    obtain ⟨n, hn, rfl, hz⟩ := hrel
    cases n with
    | zero =>
      have hT := take_limbs HL.out hn hz.out (.inl rfl)
      rw [List.take_zero] at hT
      have HT := Lib.hid hT
      clear hT
      go_wp2
      go_ret
      refine ⟨⟨none, 0, by rw [← HT.out]; rfl, by rw [← HT.out]; simp, by rw [← HT.out]; exact U32s.nil _ _, .inr HT.out.symm⟩, rfl⟩
    | succ m =>
      obtain ⟨b, off, rfl, hb, hcell⟩ := HU.out.pick (show m < l.length by omega)
      have e1 : ((m + 1 : Nat) : Int) - 1 = (m : Int) := by omega
      by_cases hd : dig l m = 0
      · rw [hd] at hcell
        go_wp2
        go_round
        case rel => exact ⟨m, by omega, by go_num, fun i h1 h2 => by
          by_cases hi : i = m
          · rw [hi]; exact hd
          · exact hz.out i (by omega) h2⟩
        case measure => simp [intOf]
      · have hT := take_limbs HL.out hn hz.out (.inr hd)
        have HT := Lib.hid hT
        have hne : ((dig l m : Int) == 0) = false := by rw [beq_eq_false_iff_ne]; omega
        clear hT
        go_wp2
        go_ret
        have hle : (limbs (lval l)).length = m + 1 := by rw [← HT.out]; simp; omega
        refine ⟨⟨some ⟨b, off, none⟩, c, by rw [hle]; rfl, by omega, by rw [← HT.out]; exact HU.out.take _, .inl rfl⟩, rfl⟩

theorem nTrim {w : World} {a : Option Addr} {l : List Nat} (c : Nat) (hc : l.length ≤ c) (h : U32s w a l) :
    Calls Try.prog 69 #[.slice a l.length c] w fun e w' => (∃ a' c', e = .returned (.slice a' (limbs (lval l)).length c') ∧ (limbs (lval l)).length ≤ c' ∧ U32s w a' (limbs (lval l))) ∧ w = w' :=
  (nTrim_at c hc h).mono fun _ _ ⟨⟨a', c', h1, h2, h3, _⟩, h4⟩ => ⟨⟨a', c', h1, h2, h3⟩, h4⟩

/-- trim at a list whose value is known. -/
theorem nTrim_is {w : World} {a : Option Addr} {l : List Nat} {v : Nat} (c : Nat) (hc : l.length ≤ c) (h : U32s w a l) (hv : lval l = v) :
    Calls Try.prog 69 #[.slice a l.length c] w fun e w' => (∃ a' c', e = .returned (.slice a' (limbs v).length c') ∧ (limbs v).length ≤ c' ∧ U32s w a' (limbs v)) ∧ w = w' := by
  subst hv; exact nTrim c hc h

set_option maxHeartbeats 400000 in
theorem nOf (x : Nat) (hx : x < 18446744073709551616) (w : World) : Calls Try.prog 45 #[.int .u64 (x : Int)] w (RetN w x) := by
  go_enter Try.func45, Try.ntmps45
  go_wp2_with fail
  have hU : U32s (w.alloc (.cells #[.int .u32 ((x : Int) % 4294967296), .int .u32 ((x : Int) / 4294967296)] 83)) (some ⟨w.heap.size, 0, none⟩) [x % 4294967296, x / 4294967296] := by
    refine ⟨?_, by simp, .inr ⟨w.heap.size, 0, rfl, by simp, fun j d hj => ?_⟩⟩
    · intro d hd
      simp at hd
      omega
    · rw [World.cell?_alloc_at _ _ _ _ rfl]
      match j, hj with
      | 0, hj => simp at hj; subst hj; simp
      | 1, hj => simp at hj; subst hj; simp
  have hv : lval [x % 4294967296, x / 4294967296] = x := by rw [lval_cons, lval_cons, lval_nil]; omega
  refine (nTrim_is (l := [x % 4294967296, x / 4294967296]) 2 (Nat.le_refl _) hU hv).mono ?_
  rintro e w' ⟨⟨a', c', rfl, h1, h2⟩, rfl⟩
  clear hU hv
  go_wp2
  go_ret
  exact ⟨a', c', rfl, h1, h2, (Below.refl _ _).alloc (Nat.le_refl _) _⟩

end Go.Proofs.Ytfmhedfiklidhaa

/-
  The walk of natural.Cmp: by contract.
-/
namespace Go.Proofs.Ytfmhedfiklidhaa
open Go.RowKit

theorem cmpN_lt {x y : Nat} (h : x < y) : cmpN x y = -1 := by simp [cmpN, h]
theorem cmpN_gt {x y : Nat} (h : y < x) : cmpN x y = 1 := by simp [cmpN, h]; omega
theorem cmpN_eq (x : Nat) : cmpN x x = 0 := by simp [cmpN]
theorem limbs_lt_len {x y : Nat} (h : (limbs x).length < (limbs y).length) : x < y := by
  have := lval_lt_len (lim_limbs x) (limbs_canon y) h
  rwa [lval_limbs, lval_limbs] at this
theorem limbs_lt_at {x y m : Nat} (hl : (limbs x).length = (limbs y).length) (hm : m < (limbs x).length) (hs : ∀ j, m + 1 ≤ j → j < (limbs x).length → dig (limbs x) j = dig (limbs y) j) (h : dig (limbs x) m < dig (limbs y) m) : x < y := by
  have := valN_lt_at (f := dig (limbs x)) (g := dig (limbs y)) (n := (limbs x).length) (i := m) (fun j _ => dig_lt (lim_limbs x) j) hm (fun j h1 h2 => hs j h1 h2) h
  have e1 : valN (dig (limbs x)) (limbs x).length = x := lval_limbs x
  have e2 : valN (dig (limbs y)) (limbs x).length = y := by rw [hl]; exact lval_limbs y
  rwa [e1, e2] at this
theorem limbs_eq_all {x y : Nat} (hl : (limbs x).length = (limbs y).length) (hs : ∀ j, 0 ≤ j → j < (limbs x).length → dig (limbs x) j = dig (limbs y) j) : x = y := by
  have e1 : valN (dig (limbs x)) (limbs x).length = x := lval_limbs x
  have e2 : valN (dig (limbs y)) (limbs x).length = y := by rw [hl]; exact lval_limbs y
  rw [← e1, ← e2]
  exact valN_congr (fun j hj => hs j (Nat.zero_le _) hj)

set_option maxHeartbeats 1600000 in
theorem nCmp {w : World} {a b : Option Addr} {l m : List Nat} {x y : Nat} (c d : Nat) (hc : l.length ≤ c) (hd : m.length ≤ d) (h : U32s w a l) (g : U32s w b m) (hx : lval l = x) (hy : lval m = y) :
    Calls Try.prog 43 #[.slice a l.length c, .slice b m.length d] w fun e w' => e = .returned (.int .i64 (cmpN x y)) ∧ ∃ n, w' = w.drewN n := by
  have HA := Lib.hid (nTrim_is c hc h hx)
  have HB := Lib.hid (nTrim_is d hd g hy)
  have hll := h.len
  have hlm := g.len
  clear h g hx hy hc hd
  go_enter Try.func43, Try.ntmps43
  go_wp2_with fail
  refine HA.out.mono ?_
  rintro e w' ⟨⟨a1, c1, rfl, hc1, ha1⟩, rfl⟩
  go_wp2_with fail
  refine HB.out.mono ?_
  rintro e w' ⟨⟨b1, d1, rfl, hd1, hb1⟩, rfl⟩
  have hl1 := ha1.len
  have hl2 := hb1.len
  clear HA HB hc1 hd1
  rcases Nat.lt_trichotomy (limbs x).length (limbs y).length with hlt | heq | hgt
  · have hR := Lib.hid (cmpN_lt (limbs_lt_len hlt))
    go_wp2
    go_ret
    exact ⟨ret_int hR.out.symm, 0, rfl⟩
  · have hEq := Lib.hid heq
    have hneq : ((limbs x).length != (limbs y).length) = false := by rw [heq]; simp
    have hge1 : (limbs x).length ≤ (limbs y).length := by omega
    have hge2 : (limbs y).length ≤ (limbs x).length := by omega
    clear heq
    have HX := Lib.hid ha1
    have HY := Lib.hid hb1
    clear ha1 hb1
    go_wp2
    go_loopw [5] (fun i wr => ∃ k : Nat, ∃ I : Int, k ≤ (limbs x).length ∧ I + 1 = (k : Int) ∧ i = .int .i64 I ∧ Hid (∀ j, k ≤ j → j < (limbs x).length → dig (limbs x) j = dig (limbs y) j) ∧ Hid (∃ n, wr = w.drewN n)) (fun i _ => (intOf i + 1).toNat)
    case atStart => exact ⟨(limbs x).length, _, Nat.le_refl _, by omega, rfl, fun j h1 h2 => by omega, ⟨0, rfl⟩⟩
    case round =>
      obtain ⟨k, I, hk, hI, rfl, hs, HWr⟩ := hrel
      cases k with
      | zero =>
        obtain rfl : I = -1 := by omega
        have hxy := limbs_eq_all hEq.out hs.out
        have HR := Lib.hid (show cmpN x y = 0 by rw [hxy]; exact cmpN_eq y)
        clear hxy
        go_wp2
        go_ret
        exact ⟨ret_int HR.out.symm, HWr.out⟩
      | succ m =>
        obtain rfl : I = (m : Int) := by omega
        have hm1 : m < (limbs x).length := by omega
        have hm2 : m < (limbs y).length := by omega
        have HXr : Hid (U32s wr a1 (limbs x)) := by obtain ⟨n, hn⟩ := HWr.out; rw [hn]; exact HX.out.drewN n
        have HYr : Hid (U32s wr b1 (limbs y)) := by obtain ⟨n, hn⟩ := HWr.out; rw [hn]; exact HY.out.drewN n
        obtain ⟨p1, o1, rfl, _, q1⟩ := HXr.out.pick hm1
        obtain ⟨p2, o2, rfl, _, q2⟩ := HYr.out.pick hm2
        have HWn : Hid (∀ k, ∃ n, wr.drewN k = w.drewN n) := fun k => by obtain ⟨n, hn⟩ := HWr.out; rw [hn]; exact drew2 w n k
        have HWnn : Hid (∀ k j, ∃ n, (wr.drewN k).drewN j = w.drewN n) := fun k j => by obtain ⟨n, hn⟩ := HWr.out; rw [hn]; exact ⟨n + k + j, by simp [Nat.add_assoc]⟩
        rcases Nat.lt_trichotomy (dig (limbs x) m) (dig (limbs y) m) with h1 | h1 | h1
        · have HR := Lib.hid (cmpN_lt (limbs_lt_at hEq.out (by omega) hs.out h1))
          have hne : ((dig (limbs x) m : Int) != (dig (limbs y) m : Int)) = true := by rw [bne_iff_ne]; omega
          go_wp2
          go_quiet (fail)
          clear hne
          go_wp2
          go_quiet (fail)
          go_wp2
          go_ret
          exact ⟨ret_int HR.out.symm, by first | exact HWnn.out _ _ | exact HWn.out _⟩
        · rw [← h1] at q2
          have hs' := hs.out
          clear hs
          go_wp2
          go_quiet (fail)
          go_wp2
          go_roundw
          case rel => exact ⟨m, (m : Int) - 1, by omega, by omega, rfl, fun j g1 g2 => by
            by_cases hj : j = m
            · rw [hj]; exact h1
            · exact hs' j (by omega) g2, HWn.out _⟩
          case measure => simp [intOf]
        · have HR := Lib.hid (cmpN_gt (limbs_lt_at hEq.out.symm (by omega) (fun j g1 g2 => (hs.out j g1 (by omega)).symm) h1))
          have hne : ((dig (limbs x) m : Int) != (dig (limbs y) m : Int)) = true := by rw [bne_iff_ne]; omega
          have hnl : decide (dig (limbs x) m < dig (limbs y) m) = false := by simp; omega
          go_wp2
          go_quiet (fail)
          clear hne
          go_wp2
          go_quiet (fail)
          go_wp2
          go_ret
          exact ⟨ret_int HR.out.symm, by first | exact HWnn.out _ _ | exact HWn.out _⟩
  · have hR := Lib.hid (cmpN_gt (limbs_lt_len hgt))
    go_wp2
    go_ret
    exact ⟨ret_int hR.out.symm, 0, rfl⟩

end Go.Proofs.Ytfmhedfiklidhaa

/-
  The walks of slices.Clone at limbs and of natural.Make: by contract.
-/
namespace Go.Proofs.Ytfmhedfiklidhaa
open Go.RowKit

theorem Try.infoU32 : (Try.prog.info? 83).map (fun i => (i.zero, i.size, i.bytes)) = some (some (.int .u32 0), 1, 4) := by kernel_rfl

/-- A row of limbs of the call's own reads as limbs. -/
theorem U32s.own {w : World} {base E : Nat} {v : Value} {l : List Nat} (h : w.ownsRow base E 1 v l.length (l.map fun d : Nat => Value.int .u32 (d : Int))) (hl : Lim l) (hn : l.length ≤ 9223372036854775807) :
    ∃ a c, v = .slice a l.length c ∧ l.length ≤ c ∧ U32s w a l := by
  rcases h.2 with ⟨rfl, hz⟩ | ⟨g, cap, cur, rfl, hb, hg, hnc, hcm, hcs, htake⟩
  · rw [hz]
    exact ⟨none, 0, rfl, Nat.le_refl _, by rw [List.eq_nil_of_length_eq_zero hz]; exact U32s.nil _ _⟩
  · refine ⟨_, cap, rfl, hnc, hl, hn, .inr ⟨g, 0, rfl, (Array.getElem?_eq_some_iff.1 hg).1, ?_⟩⟩
    intro j d hj
    have := h.cells (g := g) rfl j (.int .u32 (d : Int)) (by simp [hj])
    simpa [Addr.add_lit] using this

set_option maxHeartbeats 1600000 in
theorem nClone {w : World} {a : Option Addr} {l : List Nat} (c : Nat) (h : U32s w a l) (hr : l.length * 4 ≤ 140737488355328) :
    Calls Try.prog 91 #[.slice a l.length c] w fun e w' => ∃ a' c', e = .returned (.slice a' l.length c') ∧ l.length ≤ c' ∧ U32s w' a' l ∧ Below w.heap.size w w' := by
  have q : ∀ (w : World) (a : Option Addr) (n c n' c' : Nat), (binOp .eql 23 (.slice a n c) (.slice none n' c')).run Try.prog w = .ok (.bool a.isNone) w := fun w a n c n' c' => Lib.run_eql_slice_nil w _ _ a n c n' c' Try.underlying23
  have hlen := h.len
  cases a with
  | none =>
    have hl : l = [] := by
      rcases h.row with hl | ⟨_, _, h0, _⟩
      · exact hl
      · cases h0
    subst hl
    go_enter Try.func91, Try.ntmps91
    go_wp2
    go_ret
    exact ⟨none, 0, rfl, Nat.le_refl _, U32s.nil _ _, Below.refl _ _⟩
  | some p =>
    obtain ⟨i0, hi, hz0, hz1, hz2⟩ := info_parts Try.infoU32
    have HU := Lib.hid h
    have HN : Hid (∀ (o : Obj) (j : Nat) (u : Value), (l.map fun d : Nat => Value.int .u32 (d : Int))[j]? = some u → (w.alloc o).cell? (p.add j) = some u) := by
      intro o j u hj
      rw [List.getElem?_map] at hj
      cases hd : l[j]? with
      | none => rw [hd] at hj; cases hj
      | some d =>
        rw [hd] at hj
        cases hj
        rcases h.row with rfl | ⟨b, off, he, hb, hc⟩
        · simp at hd
        · cases he
          rw [Addr.add_lit]
          have hbl : Below w.heap.size w (w.alloc o) := (Below.refl _ w).alloc (Nat.le_refl _) _
          exact (hbl.cell (p := ⟨b, off + j, none⟩) hb).trans (hc j d hd)
    clear h
    go_enter Try.func91, Try.ntmps91
    go_wp2_with (at_builtin; refine wpList_append_own _ rfl _ _ 23 rfl w.heap.size 83 i0 (.int .u32 0) 1 4 Try.underlying23 hi hz0 hz1 hz2 rfl (by decide) _ _ _ rfl (World.ownsRow_made w #[] 0 (Nat.le_refl _) (Nat.zero_le _) rfl) p l.length c (l.map fun d : Nat => Value.int .u32 (d : Int)) rfl ?qc1 ?qc2 ?qc3 ?qc4 ?qc5 ?qc6 ?_)
    case qc1 => simp
    case qc2 => exact HN.out _
    case qc3 => intro u hu; obtain ⟨x, _, rfl⟩ := List.mem_map.1 hu; rfl
    case qc4 => unfold maxLen; omega
    case qc5 => omega
    case qc6 => simp
    intro v' w1 hown hgrow hnil
    have hown' : w1.ownsRow w.heap.size 83 1 v' l.length (l.map fun d : Nat => Value.int .u32 (d : Int)) := by simpa using hown
    obtain ⟨a', c', rfl, h1, h2⟩ := U32s.own hown' HU.out.lim hlen
    clear hown hown'
    clear hnil
    go_wp2
    go_ret
    exact ⟨a', c', rfl, h1, h2, ((Below.refl _ w).alloc (Nat.le_refl _) _).grown hgrow (by simp) (by intro k hk; simp [Value.ownBlock] at hk; omega)⟩

set_option maxHeartbeats 400000 in
theorem nMake {w : World} {a : Option Addr} {l : List Nat} (c : Nat) (hc : l.length ≤ c) (h : U32s w a l) (hr : l.length * 4 ≤ 140737488355328) :
    Calls Try.prog 66 #[.slice a l.length c] w (RetN w (lval l)) := by
  have HT := Lib.hid (nTrim c hc h)
  have hle := limbs_len_of_lval h.lim
  clear h
  go_enter Try.func66, Try.ntmps66
  go_wp2_with fail
  refine HT.out.mono ?_
  rintro e w' ⟨⟨a1, c1, rfl, h1, h2⟩, rfl⟩
  have HC := Lib.hid (nClone c1 h2 (by omega))
  clear h2 h1
  go_wp2_with fail
  refine HC.out.mono ?_
  rintro e w' ⟨a2, c2, rfl, h3, h4, h5⟩
  go_wp2
  go_ret
  exact ⟨a2, c2, rfl, h3, h4, h5⟩

end Go.Proofs.Ytfmhedfiklidhaa

/-
  Regions that draw their order, whose operations read and whose calls read and make memory, each with one answer: one walk in the order of the text. The class of worlds: those that hold more than a given one. No program in sight.
-/
namespace Go.Proofs.Ytfmhedfiklidhaa
open Go.RowKit

/-- What is more. -/
structure ExtD where
  news : Array Obj
  count : Nat
instance : Inhabited ExtD := ⟨⟨#[], 0⟩⟩

/-- The world W with more blocks behind its own, and another count of draws. -/
def ext (W : World) (e : ExtD) : World := { W with heap := W.heap ++ e.news, drawn := e.count }

theorem ext_below (W : World) (e : ExtD) : Below W.heap.size W (ext W e) :=
  ⟨rfl, rfl, rfl, by simp [ext], fun k hk => by show (W.heap ++ e.news)[k]? = _; rw [Array.getElem?_append_left hk]⟩
theorem below_ext {W w' : World} (h : Below W.heap.size W w') : ∃ e, w' = ext W e := by
  refine ⟨⟨w'.heap.extract W.heap.size w'.heap.size, w'.drawn⟩, ?_⟩
  obtain ⟨h1, t1, d1, o1, p1⟩ := w'
  obtain ⟨h2, t2, d2, o2, p2⟩ := W
  obtain ⟨e1, e2, e3, e4, e5⟩ := h
  simp only at e1 e2 e3 e4 e5
  subst e1 e2 e3
  unfold ext
  congr 1
  apply Array.ext_getElem?
  intro i
  rcases Nat.lt_or_ge i h2.size with hlt | hge
  · rw [Array.getElem?_append_left hlt]
    exact e5 i hlt
  · rw [Array.getElem?_append_right hge, Array.getElem?_extract]
    simp only [Nat.min_self]
    by_cases hi : i < h1.size
    · rw [if_pos (by omega), Nat.add_sub_cancel' hge]
    · rw [if_neg (by omega), Array.getElem?_eq_none (by omega)]
theorem ext_cell {W : World} {g o : Nat} {v : Value} (h : W.cell? ⟨g, o, none⟩ = some v) (hg : g < W.heap.size) : ∀ e, (ext W e).cell? ⟨g, o, none⟩ = some v := fun e => ((ext_below W e).cell hg).trans h

theorem wp_region_quiet_ext {P : Program} {id : Nat} {Q : Exit → Act → World → Prop} {a : Act} {w : World} {l : List Oper} (hm : P.follows .mixedOrders = true) (hB : Region.lexB .any l.toArray = true)
    (h : wpQuiet P l.toArray (fun w' => ∃ e, w' = ext w e) (fun a' => ∀ w', (∃ e, w' = ext w e) → Q .normal a' w') l a) : (Code.region id l.toArray true).wp P Q a w :=
  wp_region_quiet (C := fun w' => ∃ e, w' = ext w e) hm hB ⟨⟨#[], w.drawn + 1⟩, by simp [ext]⟩ (by simpa using h)

/-- A contract, met in the midst of such a region. -/
theorem Calls.ext_of {P : Program} {f : FuncId} {args : Array Value} {W : World} {e : ExtD} {v : Value}
    (h : Calls P f args (ext W e) fun x w' => x = .returned v ∧ Below (ext W e).heap.size (ext W e) w') : Calls P f args (ext W e) fun x w'' => x = .returned v ∧ ∃ m, w'' = ext W m :=
  h.mono fun _ _ ⟨he, hb⟩ => ⟨he, below_ext ((ext_below W e).trans (hb.mono (ext_below W e).size))⟩
theorem Calls.ext_of_same {P : Program} {f : FuncId} {args : Array Value} {W : World} {e : ExtD} {v : Value}
    (h : Calls P f args (ext W e) fun x w' => x = .returned v ∧ ext W e = w') : Calls P f args (ext W e) fun x w'' => x = .returned v ∧ ∃ m, w'' = ext W m :=
  h.mono fun _ _ ⟨he, hb⟩ => ⟨he, e, hb.symm⟩

end Go.Proofs.Ytfmhedfiklidhaa

/-
  The reference's limb, Cmp, Same of layer 1: by contract.
-/
namespace Go.Proofs.Ytfmhedfiklidhaa
open Go.RowKit

theorem take_succ_at' {l : List Nat} {k x : Nat} (hx : l[k]? = some x) : l.take (k + 1) = l.take k ++ [x] := by
  rw [List.take_add_one, hx]; rfl

set_option maxHeartbeats 800000 in
theorem r1Limb {w : World} {a : Option Addr} {l : List Nat} (c i : Nat) (hi : i ≤ 9223372036854775807) (h : U32s w a l) :
    Calls Try.prog 64 #[.slice a l.length c, .int .i64 (i : Int)] w fun e w' => e = .returned (.int .u32 (dig l i : Int)) ∧ w = w' := by
  have hl := h.len
  by_cases hlt : i < l.length
  · obtain ⟨b, off, rfl, _, hc⟩ := h.pick hlt
    clear h
    go_enter Try.func64, Try.ntmps64
    go_wp2
    go_ret
    exact ⟨rfl, rfl⟩
  · have hd := Lib.hid (dig_out (l := l) (i := i) (by omega))
    clear h
    go_enter Try.func64, Try.ntmps64
    go_wp2
    go_ret
    exact ⟨by rw [hd.out]; rfl, rfl⟩

theorem lval_ext {l : List Nat} {N : Nat} (h : l.length ≤ N) : valN (dig l) N = lval l := valN_more h (fun i h1 _ => dig_out h1)
/-- Two lists of limbs, compared from a place on. -/
theorem lval_lt_at {l m : List Nat} {N k : Nat} (hl : Lim l) (hN1 : l.length ≤ N) (hN2 : m.length ≤ N) (hk : k < N) (hs : ∀ j, k + 1 ≤ j → j < N → dig l j = dig m j) (h : dig l k < dig m k) : lval l < lval m := by
  have := valN_lt_at (f := dig l) (g := dig m) (n := N) (i := k) (fun j _ => dig_lt hl j) hk (fun j h1 h2 => hs j h1 h2) h
  rwa [lval_ext hN1, lval_ext hN2] at this

set_option maxHeartbeats 1600000 in
theorem r1Cmp {w : World} {a b : Option Addr} {l m : List Nat} (c d : Nat) (h : U32s w a l) (g : U32s w b m) :
    Calls Try.prog 85 #[.slice a l.length c, .slice b m.length d] w fun e w' => e = .returned (.int .i64 (cmpN (lval l) (lval m))) ∧ w = w' := by
  have hl := h.len
  have hm := g.len
  have HL := Lib.hid h.lim
  have HM := Lib.hid g.lim
  have HC1 := Lib.hid (fun i hi => r1Limb c i hi h)
  have HC2 := Lib.hid (fun i hi => r1Limb d i hi g)
  clear h g
  obtain ⟨N, hN⟩ : ∃ N : Nat, N = max l.length m.length := ⟨_, rfl⟩
  have hN1 : l.length ≤ N := by omega
  have hN2 : m.length ≤ N := by omega
  have hN3 : N ≤ 9223372036854775807 := by omega
  have hmx : max (l.length : Int) (m.length : Int) = (N : Int) := by omega
  clear hN
  go_enter Try.func85, Try.ntmps85
  go_wp2
  all_goals
    go_loop [5] (fun i => ∃ k : Nat, ∃ I : Int, k ≤ N ∧ I + 1 = (k : Int) ∧ i = .int .i64 I ∧ Hid (∀ j, k ≤ j → j < N → dig l j = dig m j)) (fun i => (intOf i + 1).toNat)
    case atStart => exact ⟨N, _, Nat.le_refl _, by omega, rfl, fun j h1 h2 => by omega⟩
    case round =>
      obtain ⟨k, I, hk, hI, rfl, hs⟩ := hrel
      try clear hmx
      cases k with
      | zero =>
        obtain rfl : I = -1 := by omega
        have HR : Hid (cmpN (lval l) (lval m) = 0) := by
          unfold Hid
          rw [← lval_ext hN1, ← lval_ext hN2, valN_congr (fun j hj => hs.out j (Nat.zero_le _) hj)]
          exact cmpN_eq _
        go_wp2
        go_ret
        exact ⟨ret_int HR.out.symm, rfl⟩
      | succ q =>
        obtain rfl : I = (q : Int) := by omega
        have b1 := dig_lt HL.out q
        have b2 := dig_lt HM.out q
        rcases Nat.lt_trichotomy (dig l q) (dig m q) with h1 | h1 | h1
        · have HR := Lib.hid (cmpN_lt (lval_lt_at HL.out hN1 hN2 (by omega) hs.out h1))
          have C1 := Lib.hid (HC1.out q (by omega))
          have C2 := Lib.hid (HC2.out q (by omega))
          clear HC1 HC2 hs
          generalize dig l q = x at *
          generalize dig m q = y at *
          have d1 : decide (x < y) = true := decide_eq_true h1
          go_wp2_with (go_at_call 64; first | ((with_reducible refine C1.out.mono ?_); rintro e w' ⟨rfl, rfl⟩) | ((with_reducible refine C2.out.mono ?_); rintro e w' ⟨rfl, rfl⟩))
          go_ret
          exact ⟨ret_int HR.out.symm, rfl⟩
        · have HS2 : Hid (∀ j, q ≤ j → j < N → dig l j = dig m j) := fun j g1 g2 => by
            by_cases hj : j = q
            · rw [hj]; exact h1
            · exact hs.out j (by omega) g2
          have C1 := Lib.hid (HC1.out q (by omega))
          have C2 := Lib.hid (HC2.out q (by omega))
          rw [← h1] at C2
          clear hs h1 b2
          generalize dig l q = x at *
          go_wp2_with (go_at_call 64; first | ((with_reducible refine C1.out.mono ?_); rintro e w' ⟨rfl, rfl⟩) | ((with_reducible refine C2.out.mono ?_); rintro e w' ⟨rfl, rfl⟩))
          go_round
          case rel => exact ⟨q, (q : Int) - 1, by omega, by omega, rfl, HS2.out⟩
          case measure => simp [intOf]
        · have HR := Lib.hid (cmpN_gt (lval_lt_at HM.out hN2 hN1 (by omega) (fun j g1 g2 => (hs.out j g1 g2).symm) h1))
          have C1 := Lib.hid (HC1.out q (by omega))
          have C2 := Lib.hid (HC2.out q (by omega))
          clear HC1 HC2 hs
          generalize dig l q = x at *
          generalize dig m q = y at *
          have d1 : decide (x < y) = false := decide_eq_false (by omega)
          have d2 : decide (y < x) = true := decide_eq_true h1
          go_wp2_with (go_at_call 64; first | ((with_reducible refine C1.out.mono ?_); rintro e w' ⟨rfl, rfl⟩) | ((with_reducible refine C2.out.mono ?_); rintro e w' ⟨rfl, rfl⟩))
          go_ret
          exact ⟨ret_int HR.out.symm, rfl⟩

set_option maxHeartbeats 1600000 in
theorem r1Same {w : World} {a b : Option Addr} {l m : List Nat} (c d : Nat) (h : U32s w a l) (g : U32s w b m) :
    Calls Try.prog 37 #[.slice a l.length c, .slice b m.length d] w fun e w' => e = .returned (.bool (decide (l = m))) ∧ ∃ n, w' = w.drewN n := by
  have hl := h.len
  have hm := g.len
  have HA := Lib.hid h
  have HB := Lib.hid g
  clear h g
  go_enter Try.func37, Try.ntmps37
  by_cases he : l.length = m.length
  · have HE := Lib.hid he
    have hlb : decide (¬ (l.length : Int) = (m.length : Int)) = false := by simp; omega
    have hlc : ((l.length : Int) == (m.length : Int)) = true := by simp; omega
    have hge1 : l.length ≤ m.length := by omega
    have hge2 : m.length ≤ l.length := by omega
    go_wp2
    go_loopw [5] (fun i wr => ∃ j : Nat, j ≤ l.length ∧ i = .int .i64 (j : Int) ∧ Hid (l.take j = m.take j) ∧ Hid (∃ n, wr = w.drewN n)) (fun i _ => l.length - (intOf i).toNat)
    case atStart => exact ⟨0, Nat.zero_le _, rfl, by simp [Hid], 0, rfl⟩
    case round =>
      obtain ⟨j, hj, rfl, HT, HN⟩ := hrel
      obtain ⟨nd, rfl⟩ := HN.out
      by_cases hlt : j < l.length
      · have hltm : j < m.length := by omega
        obtain ⟨p1, o1, rfl, _, cA⟩ := HA.out.pick hlt
        obtain ⟨p2, o2, rfl, _, cB⟩ := HB.out.pick hltm
        have TA := Lib.hid (take_succ_at' (at_dig hlt))
        have TB := Lib.hid (take_succ_at' (at_dig hltm))
        have GA := Lib.hid (at_dig hlt)
        have GB := Lib.hid (at_dig hltm)
        generalize dig l j = x at *
        generalize dig m j = y at *
        by_cases hxy : x = y
        · subst hxy
          go_wp2
          go_quiet (fail)
          go_wp2
          go_roundw
          case rel => exact ⟨j + 1, hlt, by go_num, by unfold Hid; rw [TA.out, TB.out, HT.out], _, rfl⟩
          case measure => simp [intOf]; omega
        · have hne : Hid (decide (l = m) = false) := by
            unfold Hid
            rw [decide_eq_false_iff_not]
            rintro rfl
            have h1 := GA.out.symm.trans GB.out
            cases h1
            exact hxy rfl
          have hxb : ((x : Int) == (y : Int)) = false := by rw [beq_eq_false_iff_ne]; omega
          go_wp2
          go_quiet (fail)
          go_wp2
          go_ret
          exact ⟨by rw [hne.out]; rfl, drew2 _ _ _⟩
      · obtain rfl : j = l.length := by omega
        have he2 : Hid (decide (l = m) = true) := by
          have h1 := HT.out
          rw [List.take_length, HE.out, List.take_length] at h1
          unfold Hid; simp [h1]
        go_wp2
        go_ret
        exact ⟨by rw [he2.out]; rfl, _, rfl⟩
  · have hne : Hid (decide (l = m) = false) := by
      unfold Hid
      rw [decide_eq_false_iff_not]
      rintro rfl
      exact he rfl
    go_wp2
    go_ret
    exact ⟨by rw [hne.out]; rfl, 0, rfl⟩

end Go.Proofs.Ytfmhedfiklidhaa

/-
  A region that draws its order, by an invariant over what is listed: each operation is shown once, whatever came before it. No program in sight.
-/
namespace Go.Proofs.Ytfmhedfiklidhaa
open Go.RowKit

section
variable {P : Program} {ops : Array Oper} {Q : Exit → Act → World → Prop} {md : Region.Mode}

theorem ready_unlisted {listed : Array Bool} {i : Nat} (h : i ∈ Region.ready md ops listed) : listed.getD i true = false := by
  unfold Region.ready at h
  have := (List.mem_filter.1 h).2
  simp only [Bool.and_eq_true, Bool.not_eq_true'] at this
  exact this.1
theorem count_step {listed : Array Bool} {i : Nat} (h : listed.getD i true = false) : (listed.setIfInBounds i true).toList.count false + 1 = listed.toList.count false := by
  have hi : i < listed.size := by
    rcases Nat.lt_or_ge i listed.size with h1 | h1
    · exact h1
    · simp [h1] at h
  have hv : listed.toList[i]'(by simpa using hi) = false := by simpa [hi] using h
  rw [Array.toList_setIfInBounds, List.count_set (by simpa using hi), hv]
  have hp : 0 < listed.toList.count false := by
    rw [List.count_pos_iff, ← hv]
    exact List.getElem_mem _
  rw [if_pos (by rfl), if_neg (by decide)]
  omega

/-- THE LAW: whatever order is picked. -/
theorem wpAny_inv (Inv : Array Bool → Act → World → Prop) (hdone : ∀ listed a w, Inv listed a w → Region.ready md ops listed = [] → Q .normal a w)
    (hstep : ∀ listed a w i, Inv listed a w → i ∈ Region.ready md ops listed → wpOp P ops Q i (fun a' w' => Inv (listed.setIfInBounds i true) a' w') a w) :
    ∀ (fuel : Nat) (listed : Array Bool) (a : Act) (w : World), Inv listed a w → listed.toList.count false ≤ fuel → wpAny P md ops Q fuel listed a w := by
  intro fuel
  induction fuel with
  | zero =>
    intro listed a w hI hc
    have hr : Region.ready md ops listed = [] := by
      rw [List.eq_nil_iff_forall_not_mem]
      intro i hi
      have := count_step (ready_unlisted hi)
      omega
    exact ⟨hr, hdone _ _ _ hI hr⟩
  | succ fuel ih =>
    intro listed a w hI hc
    refine ⟨fun hr => hdone _ _ _ hI hr, fun i hi => ?_⟩
    have h1 := count_step (ready_unlisted hi)
    exact wpOp_mono (fun a' w' h => ih _ a' w' h (by omega)) (hstep _ _ _ i hI hi)

/-- The beginning. -/
theorem wp_region_inv {id : Nat} {a : Act} {w : World} (hm : P.follows .mixedOrders = true) (Inv : Array Bool → Act → World → Prop) (h0 : Inv (Array.replicate ops.size false) a w.drew)
    (hdone : ∀ listed a w, Inv listed a w → Region.ready .any ops listed = [] → Q .normal a w)
    (hstep : ∀ listed a w i, Inv listed a w → i ∈ Region.ready .any ops listed → wpOp P ops Q i (fun a' w' => Inv (listed.setIfInBounds i true) a' w') a w) :
    (Code.region id ops true).wp P Q a w :=
  wp_region_any hm (wpAny_inv Inv hdone hstep _ _ _ _ h0 (by simp))
end

end Go.Proofs.Ytfmhedfiklidhaa

/-
  A region that draws its order, slot by slot: each operation is shown once, with what it waits for laid. No program in sight.
-/
namespace Go.Proofs.Ytfmhedfiklidhaa
open Go.RowKit

/-- The frame with the value g i in the slot of operation i. -/
def fillFrom : List Oper → Nat → (Nat → Value) → Act → Act
  | [], _, _, a => a
  | o :: l, k, g, a => fillFrom l (k + 1) g (a.put o.dst (g k))
/-- No slot is written twice. -/
def aparts : List Oper → Bool
  | [] => true
  | o :: l => (match o.dst with | none => true | some d => l.all fun p => !(p.dst == some d)) && aparts l
/-- Each waits for earlier ones alone. -/
def backs : List Oper → Nat → Bool
  | [], _ => true
  | o :: l, k => o.after.all (fun e => !Region.binds .any e || decide (e.on < k)) && backs l (k + 1)
def upd (g : Nat → Value) (i : Nat) (v : Value) : Nat → Value := fun j => if j = i then v else g j

section
theorem put_put (a : Act) (x : Option Tmp) (v u : Value) : (a.put x v).put x u = a.put x u := by
  cases x with
  | none => rfl
  | some d => simp [Act.put, Array.setIfInBounds_setIfInBounds]
theorem fillFrom_congr {g g' : Nat → Value} : ∀ (l : List Oper) (k : Nat) (a : Act), (∀ j, k ≤ j → g j = g' j) → fillFrom l k g a = fillFrom l k g' a := by
  intro l
  induction l with
  | nil => intro _ _ _; rfl
  | cons o l ih =>
    intro k a h
    simp only [fillFrom]
    rw [h k (Nat.le_refl _)]
    exact ih _ _ (fun j hj => h j (by omega))
theorem fillFrom_put {x : Option Tmp} {v : Value} {g : Nat → Value} : ∀ (l : List Oper) (k : Nat) (a : Act), (∀ d, x = some d → ∀ p ∈ l, p.dst ≠ some d) → (fillFrom l k g a).put x v = fillFrom l k g (a.put x v) := by
  intro l
  induction l with
  | nil => intro _ _ _; rfl
  | cons o l ih =>
    intro k a h
    simp only [fillFrom]
    rw [ih _ _ (fun d hd p hp => h d hd p (List.mem_cons_of_mem _ hp)), Act.put_comm a v (g k) (fun d hd => h d hd o List.mem_cons_self)]
theorem aparts_cons {o : Oper} {l : List Oper} (h : aparts (o :: l) = true) : (∀ d, o.dst = some d → ∀ p ∈ l, p.dst ≠ some d) ∧ aparts l = true := by
  unfold aparts at h
  rw [Bool.and_eq_true] at h
  refine ⟨fun d hd p hp e => ?_, h.2⟩
  have h1 := h.1
  rw [hd] at h1
  have h2 := List.all_eq_true.1 h1 p hp
  rw [e] at h2
  simp at h2
theorem fillFrom_upd {g : Nat → Value} {v : Value} : ∀ (l : List Oper) (k i : Nat) (a : Act), aparts l = true → i < l.length → (fillFrom l k g a).put ((l[i]?).bind (·.dst)) v = fillFrom l k (upd g (k + i) v) a := by
  intro l
  induction l with
  | nil => intro k i a _ hi; simp at hi
  | cons o l ih =>
    intro k i a ha hi
    obtain ⟨h1, h2⟩ := aparts_cons ha
    cases i with
    | zero =>
      simp only [fillFrom, List.getElem?_cons_zero, Option.bind_some, Nat.add_zero]
      rw [fillFrom_put l _ _ h1, put_put, fillFrom_congr (g' := upd g k v) l (k + 1) _ (fun j hj => by unfold upd; rw [if_neg (by omega)])]
      unfold upd
      rw [if_pos rfl]
    | succ i =>
      simp only [fillFrom, List.getElem?_cons_succ]
      rw [ih (k + 1) i _ h2 (by simpa using hi)]
      have e : k + 1 + i = k + (i + 1) := by omega
      rw [e]
      congr 2
      unfold upd
      rw [if_neg (by omega)]
theorem put_self (a : Act) (x : Option Tmp) : a.put x (match x with | some d => a.tmps.getD d undef | none => undef) = a := by
  cases x with
  | none => rfl
  | some d =>
    obtain ⟨t, df⟩ := a
    unfold Act.put
    simp only
    congr 1
    apply Array.ext_getElem?
    intro i
    rw [Array.getElem?_setIfInBounds]
    split
    · subst_vars
      split
      · simp [Array.getD_eq_getD_getElem?, *]
      · simp [*]
    · rfl
def slotsOf (ops : List Oper) (a : Act) : Nat → Value := fun i => match (ops[i]?).bind (·.dst) with | some d => a.tmps.getD d undef | none => undef
theorem fillFrom_self {a : Act} : ∀ (l : List Oper) (k : Nat) (g : Nat → Value), (∀ i, i < l.length → g (k + i) = slotsOf l a i) → fillFrom l k g a = a := by
  intro l
  induction l with
  | nil => intro _ _ _; rfl
  | cons o l ih =>
    intro k g h
    simp only [fillFrom]
    have h0 := h 0 (by simp)
    rw [Nat.add_zero] at h0
    have e : a.put o.dst (g k) = a := by
      rw [h0]
      unfold slotsOf
      simp only [List.getElem?_cons_zero, Option.bind_some]
      exact put_self a o.dst
    rw [e]
    exact ih _ _ (fun i hi => by
      have h1 := h (i + 1) (by simpa using hi)
      rw [show k + 1 + i = k + (i + 1) by omega, h1]
      unfold slotsOf
      simp)

variable {P : Program} {Q : Exit → Act → World → Prop}

/-- What operation i waits for is laid. -/
def Laid (G : Nat → Value → World → Prop) (g : Nat → Value) (w : World) : List Edge → Prop
  | [] => True
  | e :: es => (Region.binds .any e = true → G e.on (g e.on) w) ∧ Laid G g w es
theorem Laid.of {G : Nat → Value → World → Prop} {g : Nat → Value} {w : World} : ∀ (es : List Edge), (∀ e ∈ es, Region.binds .any e = true → G e.on (g e.on) w) → Laid G g w es := by
  intro es
  induction es with
  | nil => intro _; trivial
  | cons e es ih => intro h; exact ⟨h e List.mem_cons_self, ih (fun x hx => h x (List.mem_cons_of_mem _ hx))⟩

/-- What each operation must show. -/
def Shows (P : Program) (ops : Array Oper) (Q : Exit → Act → World → Prop) (a0 : Act) (fl : List Oper) (R : World → Prop) (S : World → World → Prop) (G : Nat → Value → World → Prop) : List Oper → Nat → Prop
  | [], _ => True
  | o :: l, i => (∀ g w, R w → Laid G g w o.after.toList → wpList P ops (Exit.then (fun a' w' => ∃ v, a' = (fillFrom fl 0 g a0).put o.dst v ∧ R w' ∧ S w w' ∧ G i v w') Q) [o] (fillFrom fl 0 g a0) w) ∧ Shows P ops Q a0 fl R S G l (i + 1)
theorem Shows.at {ops : Array Oper} {a0 : Act} {fl : List Oper} {R : World → Prop} {S : World → World → Prop} {G : Nat → Value → World → Prop} : ∀ (l : List Oper) (k : Nat), Shows P ops Q a0 fl R S G l k → ∀ i o, l[i]? = some o →
    ∀ g w, R w → Laid G g w o.after.toList → wpList P ops (Exit.then (fun a' w' => ∃ v, a' = (fillFrom fl 0 g a0).put o.dst v ∧ R w' ∧ S w w' ∧ G (k + i) v w') Q) [o] (fillFrom fl 0 g a0) w := by
  intro l
  induction l with
  | nil => intro k _ i o h; simp at h
  | cons p l ih =>
    intro k h i o ho
    cases i with
    | zero => simp at ho; subst ho; exact h.1
    | succ i =>
      have := ih (k + 1) h.2 i o (by simpa using ho)
      rw [show k + (i + 1) = k + 1 + i by omega]
      exact this

theorem upon_then {o : Oper} {a : Act} {K : Act → World → Prop} {r : Result Go.Next} {K' : Act → World → Prop} (hK : ∀ a w, K' a w → K a w) (h : o.upon P a K' (Exit.then K Q) r) : o.upon P a K Q r := by
  cases r with
  | ok n w =>
    cases n <;> simp only [Oper.upon] at h ⊢ <;> first
      | exact hK _ _ h
      | exact Calls.mono h (fun e w'' he => by
          cases e
          · exact hK _ _ he
          · exact he
          · exact he)
      | exact Rows.mono h (fun _ _ he => hK _ _ he)
  | halt x w => cases x <;> simp only [Oper.upon] at h ⊢ <;> exact h
theorem wpList_then {ops : Array Oper} {o : Oper} {a : Act} {w : World} (h : wpList P ops Q [o] a w) : wpList P ops (Exit.then (Q .normal) Q) [o] a w := by
  have e : Exit.then (Q .normal) Q = Q := by funext e a w; cases e <;> rfl
  rw [e]; exact h
theorem wpOp_of_list {ops : Array Oper} {K : Act → World → Prop} {i : Nat} {o : Oper} (ho : ops[i]? = some o) {a : Act} {w : World} (h : wpList P ops (Exit.then K Q) [o] a w) : wpOp P ops Q i K a w := by
  unfold wpOp
  rw [ho]
  simp only
  unfold wpList at h
  split
  · rename_i hw
    rw [if_pos hw] at h
    rcases h with h | ⟨h1, h2⟩
    · exact .inl (upon_then (fun _ _ h => h) h)
    · exact .inr ⟨h1, h2⟩
  · rename_i hw
    rw [if_neg hw] at h
    exact h

theorem backs_at : ∀ (l : List Oper) (k : Nat), backs l k = true → ∀ i o, l[i]? = some o → ∀ e ∈ o.after, Region.binds .any e = true → e.on < k + i := by
  intro l
  induction l with
  | nil => intro k _ i o h; simp at h
  | cons p l ih =>
    intro k h i o ho e he hb
    unfold backs at h
    rw [Bool.and_eq_true] at h
    cases i with
    | zero =>
      simp at ho
      subst ho
      have h1 := Array.all_eq_true_iff_forall_mem.1 h.1 e he
      rw [hb] at h1
      simpa using h1
    | succ i =>
      have := ih (k + 1) h.2 i o (by simpa using ho) e he hb
      omega
theorem all_listed {ops : Array Oper} {listed : Array Bool} (hs : listed.size = ops.size) (hbk : backs ops.toList 0 = true) (hr : Region.ready .any ops listed = []) : ∀ i, i < ops.size → listed.getD i false = true := by
  intro i
  induction i using Nat.strongRecOn with
  | _ i ih =>
    intro hi
    cases hc : listed.getD i false with
    | true => rfl
    | false =>
      exfalso
      have hc2 : listed.getD i true = false := by
        have hl : i < listed.size := by omega
        simpa [hl] using hc
      have : i ∈ Region.ready .any ops listed := mem_ready.2 ⟨hc2, ops[i], Array.getElem?_eq_getElem hi, fun e he hb => by
        have hlt := backs_at _ _ hbk i ops[i] (by simp [hi]) e he hb
        rw [Nat.zero_add] at hlt
        exact ih _ hlt (by omega)⟩
      rw [hr] at this
      simp at this

/-- Each operation but the last is waited for by a later one. -/
def usedBy (ops : Array Oper) (n i : Nat) : Bool := (List.range n).any fun k => decide (i < k) && (ops.getD k default).after.toList.any fun e => Region.binds .any e && e.on == i
def usedAll (ops : Array Oper) : Bool := (List.range (ops.size - 1)).all fun i => usedBy ops ops.size i
theorem usedAll_at {ops : Array Oper} (h : usedAll ops = true) {i : Nat} (hi : i + 1 < ops.size) : ∃ (k : Nat) (o : Oper), i < k ∧ ops[k]? = some o ∧ ∃ e ∈ o.after, Region.binds .any e = true ∧ e.on = i := by
  have h1 := List.all_eq_true.1 h i (List.mem_range.2 (by omega))
  obtain ⟨k, hk, h2⟩ := List.any_eq_true.1 h1
  rw [List.mem_range] at hk
  rw [Bool.and_eq_true, decide_eq_true_eq] at h2
  obtain ⟨e, he, h3⟩ := List.any_eq_true.1 h2.2
  rw [Bool.and_eq_true, beq_iff_eq] at h3
  have e1 : ops.getD k default = ops[k] := by simp [hk]
  rw [e1, Array.mem_toList_iff] at he
  exact ⟨k, ops[k], h2.1, Array.getElem?_eq_getElem hk, e, he, h3.1, h3.2⟩
/-- The last is ready when all others are listed. -/
theorem last_ready {ops : Array Oper} {listed : Array Bool} (hu : usedAll ops = true) (hc : ∀ i o, ops[i]? = some o → listed.getD i false = true → ∀ e ∈ o.after, Region.binds .any e = true → listed.getD e.on false = true)
    (hr : ops.size - 1 ∈ Region.ready .any ops listed) : ∀ i, i + 1 < ops.size → listed.getD i false = true := by
  have key : ∀ m i, ops.size - 1 - i = m → i + 1 < ops.size → listed.getD i false = true := by
    intro m
    induction m using Nat.strongRecOn with
    | _ m ih =>
      intro i hm hi
      obtain ⟨k, o, hik, ho, e, he, hb, rfl⟩ := usedAll_at hu hi
      have hk := (Array.getElem?_eq_some_iff.1 ho).1
      by_cases hl : k + 1 < ops.size
      · exact hc k o ho (ih (ops.size - 1 - k) (by omega) k rfl hl) e he hb
      · obtain rfl : k = ops.size - 1 := by omega
        obtain ⟨_, o', ho', hd⟩ := mem_ready.1 hr
        rw [ho] at ho'
        cases ho'
        exact hd e he hb
  exact fun i hi => key _ i rfl hi

/-- The values of the operations but the last, laid. -/
def LaidAll (G : Nat → Value → World → Prop) (g : Nat → Value) (w : World) : Nat → Prop
  | 0 => True
  | n + 1 => LaidAll G g w n ∧ G n (g n) w
theorem LaidAll.of {G : Nat → Value → World → Prop} {g : Nat → Value} {w : World} : ∀ (n : Nat), (∀ i, i < n → G i (g i) w) → LaidAll G g w n := by
  intro n
  induction n with
  | zero => intro _; trivial
  | succ n ih => intro h; exact ⟨ih (fun i hi => h i (by omega)), h n (by omega)⟩

/-- THE LAW: all but the last in whatever order, each shown once; the last behind them all. -/
theorem wp_region_slots {init : List Oper} {last : Oper} {id : Nat} {a : Act} {w : World} (hm : P.follows .mixedOrders = true) (hap : aparts init = true) (hbk : backs (init ++ [last]) 0 = true) (hus : usedAll (init ++ [last]).toArray = true) (R : World → Prop) (S : World → World → Prop) (G : Nat → Value → World → Prop)
    (hG : ∀ i v w w', G i v w → S w w' → G i v w') (h0 : R w.drew) (hshow : Shows P (init ++ [last]).toArray Q a init R S G init 0)
    (hlast : ∀ (g : Nat → Value) (w' : World), R w' → LaidAll G g w' init.length → wpList P (init ++ [last]).toArray Q [last] (fillFrom init 0 g a) w') : (Code.region id (init ++ [last]).toArray true).wp P Q a w := by
  have hsz : (init ++ [last]).toArray.size = init.length + 1 := by simp
  refine wp_region_inv hm (fun listed a' w' => listed.size = init.length + 1 ∧ (∀ i o, (init ++ [last]).toArray[i]? = some o → listed.getD i false = true → ∀ e ∈ o.after, Region.binds .any e = true → listed.getD e.on false = true) ∧
    ((listed.getD init.length false = false ∧ ∃ g, a' = fillFrom init 0 g a ∧ R w' ∧ ∀ i, i < init.length → listed.getD i false = true → G i (g i) w') ∨ ((∀ i, i < init.length + 1 → listed.getD i false = true) ∧ Q .normal a' w'))) ?_ ?_ ?_
  · have hrep : ∀ i, (Array.replicate (init ++ [last]).toArray.size false).getD i false = false := by
      intro i
      simp only [Array.getD_eq_getD_getElem?, Array.getElem?_replicate]
      split <;> rfl
    refine ⟨by simp, ?_, .inl ⟨hrep _, slotsOf init a, (fillFrom_self _ _ _ (fun i _ => by rw [Nat.zero_add])).symm, h0, ?_⟩⟩
    · intro i o _ hi; rw [hrep] at hi; cases hi
    · intro i _ hi; rw [hrep] at hi; cases hi
  · rintro listed a' w' ⟨hs, hc, ⟨hl, _⟩ | ⟨_, hq⟩⟩ hr
    · have := all_listed (by rw [hs, hsz]) hbk hr init.length (by rw [hsz]; omega)
      rw [this] at hl
      cases hl
    · exact hq
  · rintro listed a' w' i ⟨hs, hc, hI⟩ hi
    obtain ⟨hu, o, ho, hdep⟩ := mem_ready.1 hi
    have hlt : i < init.length + 1 := by have := (Array.getElem?_eq_some_iff.1 ho).1; rw [hsz] at this; exact this
    have hclo : ∀ k o', (init ++ [last]).toArray[k]? = some o' → (listed.setIfInBounds i true).getD k false = true → ∀ e ∈ o'.after, Region.binds .any e = true → (listed.setIfInBounds i true).getD e.on false = true := by
      have hup : ∀ j, listed.getD j false = true → (listed.setIfInBounds i true).getD j false = true := by
        intro j hj
        by_cases hij : i = j
        · subst hij
          simp [Array.getD_eq_getD_getElem?, Array.getElem?_setIfInBounds, hs, hlt]
        · rw [getD_set_ne _ hij]; exact hj
      intro k o' ho' hk e he hb
      by_cases hik : i = k
      · subst hik
        rw [ho] at ho'
        cases ho'
        exact hup _ (hdep e he hb)
      · rw [getD_set_ne _ hik] at hk
        exact hup _ (hc k o' ho' hk e he hb)
    rcases hI with ⟨hl, g, rfl, hR, hall⟩ | ⟨hall, _⟩
    · by_cases hil : i = init.length
      · subst hil
        have e0 : o = last := by simp at ho; exact ho.symm
        subst e0
        have hA : ∀ j, j < init.length → listed.getD j false = true := fun j hj => last_ready hus hc (by rw [hsz]; exact hi) j (by rw [hsz]; omega)
        have hs1 := hlast g w' hR (LaidAll.of _ fun j hj => hall j hj (hA j hj))
        refine wpOp_mono ?_ (wpOp_of_list ho (K := Q .normal) (wpList_then hs1))
        intro a2 w2 hq
        refine ⟨by simp [hs], hclo, .inr ⟨fun j hj => ?_, hq⟩⟩
        by_cases hij : init.length = j
        · subst hij
          simp [Array.getD_eq_getD_getElem?, Array.getElem?_setIfInBounds, hs]
        · rw [getD_set_ne _ hij]; exact hA j (by omega)
      · have hil' : i < init.length := by omega
        have ho' : init[i]? = some o := by
          rw [List.getElem?_toArray, List.getElem?_append_left hil'] at ho
          exact ho
        have hL : Laid G g w' o.after.toList := Laid.of _ fun e he hb => hall _ (by
          have := backs_at _ _ hbk i o (by simpa using ho) e (by simpa using he) hb
          omega) (hdep e (by simpa using he) hb)
        have hs1 := hshow.at _ _ i o ho' g w' hR hL
        rw [Nat.zero_add] at hs1
        refine wpOp_mono ?_ (wpOp_of_list ho hs1)
        rintro a2 w2 ⟨v, rfl, hR2, hS2, hG2⟩
        refine ⟨by simp [hs], hclo, .inl ⟨by rw [getD_set_ne _ hil]; exact hl, upd g i v, ?_, hR2, fun j hjl hj => ?_⟩⟩
        · have := fillFrom_upd (g := g) (v := v) init 0 i a hap hil'
          rw [Nat.zero_add] at this
          rw [← this]
          simp [ho']
        · by_cases hij : j = i
          · subst hij; unfold upd; rw [if_pos rfl]; exact hG2
          · unfold upd; rw [if_neg hij]
            refine hG _ _ _ _ (hall j hjl ?_) hS2
            rw [getD_set_ne _ (Ne.symm hij)] at hj
            exact hj
    · exfalso
      have h1 := hall i hlt
      rw [Array.getD_eq_getD_getElem?] at h1 hu
      cases hx : listed[i]? with
      | none => rw [hx] at h1; cases h1
      | some b => rw [hx] at h1 hu; simp at h1 hu; rw [h1] at hu; cases hu
/-- .. at a literal region. -/
theorem wp_region_slots_lit {l : List Oper} {id : Nat} {a : Act} {w : World} (hm : P.follows .mixedOrders = true) (hl : l = l.dropLast ++ [l.getLastD default]) (hap : aparts l.dropLast = true) (hbk : backs l 0 = true) (hus : usedAll l.toArray = true) (R : World → Prop) (S : World → World → Prop) (G : Nat → Value → World → Prop)
    (hG : ∀ i v w w', G i v w → S w w' → G i v w') (h0 : R w.drew) (hshow : ∀ ops, Shows P ops Q a l.dropLast R S G l.dropLast 0)
    (hlast : ∀ ops (g : Nat → Value) (w' : World), R w' → LaidAll G g w' l.dropLast.length → wpList P ops Q [l.getLastD default] (fillFrom l.dropLast 0 g a) w') : (Code.region id l.toArray true).wp P Q a w := by
  have h1 := wp_region_slots (P := P) (Q := Q) (init := l.dropLast) (last := l.getLastD default) (id := id) (a := a) (w := w) hm hap (by rw [← hl]; exact hbk) (by rw [← hl]; exact hus) R S G hG h0 (hshow _) (hlast _)
  rw [← hl] at h1
  exact h1
end

end Go.Proofs.Ytfmhedfiklidhaa

/-
  As Slots, with a tail: the last operations of the region, forced in their order, behind all the others. No program in sight.
-/
namespace Go.Proofs.Ytfmhedfiklidhaa
open Go.RowKit

section
variable {P : Program} {Q : Exit → Act → World → Prop}

/-- All ahead of operation t are waited for, by t or by one ahead of it. -/
def usedUpto (ops : Array Oper) (t : Nat) : Bool := (List.range t).all fun i => (List.range (t + 1)).any fun k => decide (i < k) && (ops.getD k default).after.toList.any fun e => Region.binds .any e && e.on == i
theorem usedUpto_at {ops : Array Oper} {t : Nat} (ht : t < ops.size) (h : usedUpto ops t = true) {i : Nat} (hi : i < t) : ∃ (k : Nat) (o : Oper), i < k ∧ k ≤ t ∧ ops[k]? = some o ∧ ∃ e ∈ o.after, Region.binds .any e = true ∧ e.on = i := by
  have h1 := List.all_eq_true.1 h i (List.mem_range.2 hi)
  obtain ⟨k, hk, h2⟩ := List.any_eq_true.1 h1
  rw [List.mem_range] at hk
  rw [Bool.and_eq_true, decide_eq_true_eq] at h2
  obtain ⟨e, he, h3⟩ := List.any_eq_true.1 h2.2
  rw [Bool.and_eq_true, beq_iff_eq] at h3
  have hks : k < ops.size := by omega
  have e1 : ops.getD k default = ops[k] := by simp [hks]
  rw [e1, Array.mem_toList_iff] at he
  exact ⟨k, ops[k], h2.1, by omega, Array.getElem?_eq_getElem hks, e, he, h3.1, h3.2⟩
theorem upto_ready {ops : Array Oper} {listed : Array Bool} {t : Nat} (ht : t < ops.size) (hu : usedUpto ops t = true) (hc : ∀ i o, ops[i]? = some o → listed.getD i false = true → ∀ e ∈ o.after, Region.binds .any e = true → listed.getD e.on false = true)
    (hr : t ∈ Region.ready .any ops listed) : ∀ i, i < t → listed.getD i false = true := by
  have key : ∀ m i, t - i = m → i < t → listed.getD i false = true := by
    intro m
    induction m using Nat.strongRecOn with
    | _ m ih =>
      intro i hm hi
      obtain ⟨k, o, hik, hkt, ho, e, he, hb, rfl⟩ := usedUpto_at ht hu hi
      by_cases hl : k < t
      · exact hc k o ho (ih (t - k) (by omega) k rfl hl) e he hb
      · obtain rfl : k = t := by omega
        obtain ⟨_, o', ho', hd⟩ := mem_ready.1 hr
        rw [ho] at ho'
        cases ho'
        exact hd e he hb
  exact fun i hi => key _ i rfl hi
theorem wpOp_of_cons {ops : Array Oper} {i : Nat} {o : Oper} {rest : List Oper} (ho : ops[i]? = some o) {a : Act} {w : World} (h : wpList P ops Q (o :: rest) a w) : wpOp P ops Q i (wpList P ops Q rest) a w := by
  unfold wpOp
  rw [ho]
  simp only
  unfold wpList at h
  exact h

/-- THE LAW: the first n in whatever order, each shown once; the rest behind them all, in the order of the text. -/
theorem wp_region_slots_tail {l : List Oper} (n : Nat) {id : Nat} {a : Act} {w : World} (hm : P.follows .mixedOrders = true) (hap : aparts (l.take n) = true) (hbk : backs l 0 = true) (hus : ((List.range (l.length - n)).all fun j => usedUpto l.toArray (n + j)) = true) (hn : n < l.length) (R : World → Prop) (S : World → World → Prop) (G : Nat → Value → World → Prop)
    (hG : ∀ i v w w', G i v w → S w w' → G i v w') (h0 : R w.drew) (hshow : ∀ ops, Shows P ops Q a (l.take n) R S G (l.take n) 0)
    (hlast : ∀ ops (g : Nat → Value) (w' : World), R w' → LaidAll G g w' n → wpList P ops Q (l.drop n) (fillFrom (l.take n) 0 g a) w') : (Code.region id l.toArray true).wp P Q a w := by
  have hsz : l.toArray.size = l.length := by simp
  have htl : (l.take n).length = n := by rw [List.length_take]; omega
  have hup : ∀ t, n ≤ t → t < l.length → usedUpto l.toArray t = true := by
    intro t h1 h2
    have := List.all_eq_true.1 hus (t - n) (List.mem_range.2 (by omega))
    rw [show n + (t - n) = t by omega] at this
    exact this
  refine wp_region_inv hm (fun listed a' w' => listed.size = l.length ∧ (∀ i o, l.toArray[i]? = some o → listed.getD i false = true → ∀ e ∈ o.after, Region.binds .any e = true → listed.getD e.on false = true) ∧
    (((∀ i, n ≤ i → listed.getD i false = false) ∧ ∃ g, a' = fillFrom (l.take n) 0 g a ∧ R w' ∧ ∀ i, i < n → listed.getD i false = true → G i (g i) w') ∨
     (∃ m, n < m ∧ m ≤ l.length ∧ (∀ i, i < m → listed.getD i false = true) ∧ (∀ i, m ≤ i → listed.getD i false = false) ∧ wpList P l.toArray Q (l.drop m) a' w'))) ?_ ?_ ?_
  · have hrep : ∀ i, (Array.replicate l.toArray.size false).getD i false = false := by
      intro i
      simp only [Array.getD_eq_getD_getElem?, Array.getElem?_replicate]
      split <;> rfl
    refine ⟨by simp, ?_, .inl ⟨fun i _ => hrep i, slotsOf (l.take n) a, (fillFrom_self _ _ _ (fun i _ => by rw [Nat.zero_add])).symm, h0, ?_⟩⟩
    · intro i o _ hi; rw [hrep] at hi; cases hi
    · intro i _ hi; rw [hrep] at hi; cases hi
  · rintro listed a' w' ⟨hs, hc, ⟨hl, _⟩ | ⟨m, h1, h2, _, h4, hq⟩⟩ hr
    · have := all_listed (by rw [hs, hsz]) hbk hr n (by rw [hsz]; exact hn)
      rw [hl n (Nat.le_refl _)] at this
      cases this
    · have hml : m = l.length := by
        rcases Nat.lt_or_ge m l.length with h | h
        · have := all_listed (by rw [hs, hsz]) hbk hr m (by rw [hsz]; exact h)
          rw [h4 m (Nat.le_refl _)] at this
          cases this
        · omega
      rw [hml, List.drop_length] at hq
      exact hq
  · rintro listed a' w' i ⟨hs, hc, hI⟩ hi
    obtain ⟨hu, o, ho, hdep⟩ := mem_ready.1 hi
    have hlt : i < l.length := by have := (Array.getElem?_eq_some_iff.1 ho).1; rw [hsz] at this; exact this
    have hset : (listed.setIfInBounds i true).getD i false = true := by simp [Array.getD_eq_getD_getElem?, Array.getElem?_setIfInBounds, hs, hlt]
    have hclo : ∀ k o', l.toArray[k]? = some o' → (listed.setIfInBounds i true).getD k false = true → ∀ e ∈ o'.after, Region.binds .any e = true → (listed.setIfInBounds i true).getD e.on false = true := by
      have hupl : ∀ j, listed.getD j false = true → (listed.setIfInBounds i true).getD j false = true := by
        intro j hj
        by_cases hij : i = j
        · subst hij; exact hset
        · rw [getD_set_ne _ hij]; exact hj
      intro k o' ho' hk e he hb
      by_cases hik : i = k
      · subst hik
        rw [ho] at ho'
        cases ho'
        exact hupl _ (hdep e he hb)
      · rw [getD_set_ne _ hik] at hk
        exact hupl _ (hc k o' ho' hk e he hb)
    rcases hI with ⟨hl, g, rfl, hR, hall⟩ | ⟨m, h1, h2, h3, h4, hq⟩
    · by_cases hil : n ≤ i
      · have hA := upto_ready (by rw [hsz]; exact hlt) (hup i hil hlt) hc hi
        have hin : i = n := by
          rcases Nat.lt_or_ge n i with h | h
          · have := hA n h
            rw [hl n (Nat.le_refl _)] at this
            cases this
          · omega
        subst hin
        have hs1 := hlast l.toArray g w' hR (LaidAll.of _ fun j hj => hall j hj (hA j hj))
        have ho' : l[i]? = some o := by simpa using ho
        have hd : l.drop i = o :: l.drop (i + 1) := by
          have hx : l[i] = o := by rw [List.getElem?_eq_getElem hlt] at ho'; exact Option.some.inj ho'
          rw [List.drop_eq_getElem_cons hlt, hx]
        rw [hd] at hs1
        refine wpOp_mono ?_ (wpOp_of_cons ho hs1)
        intro a2 w2 hq
        refine ⟨by simp [hs], hclo, .inr ⟨i + 1, by omega, by omega, fun j hj => ?_, fun j hj => ?_, hq⟩⟩
        · by_cases hij : i = j
          · subst hij; exact hset
          · rw [getD_set_ne _ hij]; exact hA j (by omega)
        · rw [getD_set_ne _ (by omega)]; exact hl j (by omega)
      · have hil' : i < n := by omega
        have ho' : (l.take n)[i]? = some o := by
          rw [List.getElem?_take, if_pos hil']; simpa using ho
        have hL : Laid G g w' o.after.toList := Laid.of _ fun e he hb => hall _ (by
          have := backs_at _ _ hbk i o (by simpa using ho) e (by simpa using he) hb
          omega) (hdep e (by simpa using he) hb)
        have hs1 := (hshow l.toArray).at _ _ i o ho' g w' hR hL
        rw [Nat.zero_add] at hs1
        refine wpOp_mono ?_ (wpOp_of_list ho hs1)
        rintro a2 w2 ⟨v, rfl, hR2, hS2, hG2⟩
        refine ⟨by simp [hs], hclo, .inl ⟨fun j hj => by rw [getD_set_ne _ (by omega)]; exact hl j hj, upd g i v, ?_, hR2, fun j hjl hj => ?_⟩⟩
        · have := fillFrom_upd (g := g) (v := v) (l.take n) 0 i a hap (by rw [htl]; exact hil')
          rw [Nat.zero_add] at this
          rw [← this]
          simp only [ho', Option.bind_some]
        · by_cases hij : j = i
          · subst hij; unfold upd; rw [if_pos rfl]; exact hG2
          · unfold upd; rw [if_neg hij]
            refine hG _ _ _ _ (hall j hjl ?_) hS2
            rw [getD_set_ne _ (Ne.symm hij)] at hj
            exact hj
    · have hmi : m ≤ i := by
        rcases Nat.lt_or_ge i m with h | h
        · have h5 := h3 i h
          rw [Array.getD_eq_getD_getElem?] at h5 hu
          cases hx : listed[i]? with
          | none => rw [hx] at h5; cases h5
          | some b => rw [hx] at h5 hu; simp at h5 hu; rw [h5] at hu; cases hu
        · exact h
      have hA := upto_ready (by rw [hsz]; exact hlt) (hup i (by omega) hlt) hc hi
      have him : i = m := by
        rcases Nat.lt_or_ge m i with h | h
        · have := hA m h
          rw [h4 m (Nat.le_refl _)] at this
          cases this
        · omega
      subst him
      have ho' : l[i]? = some o := by simpa using ho
      have hd : l.drop i = o :: l.drop (i + 1) := by
        have hx : l[i] = o := by rw [List.getElem?_eq_getElem hlt] at ho'; exact Option.some.inj ho'
        rw [List.drop_eq_getElem_cons hlt, hx]
      rw [hd] at hq
      refine wpOp_mono ?_ (wpOp_of_cons ho hq)
      intro a2 w2 hq
      refine ⟨by simp [hs], hclo, .inr ⟨i + 1, by omega, by omega, fun j hj => ?_, fun j hj => ?_, hq⟩⟩
      · by_cases hij : i = j
        · subst hij; exact hset
        · rw [getD_set_ne _ hij]; exact h3 j (by omega)
      · rw [getD_set_ne _ (by omega)]; exact h4 j (by omega)
end

/-- 'v = append(v, u)', v the call's own; u's row lies at x. -/
theorem wpList_appRow {P : Program} {w : World} {ops : Array Oper} {rest : List Oper} {o : Oper} {a : Act} {Q : Exit → Act → World → Prop} (hgd : o.guard = none) (s x : Operand) (t : TypeId)
    (ho : o.op = .call { callee := .builtin .append, args := #[s, x], argTypes := #[t, t] })
    (base : Nat) (e : TypeId) (z : Value) (bytes : Nat) (ht : P.underlying t = some (.slice e)) (hinfo : (P.info? e).map (fun i => (i.zero, i.size, i.bytes)) = some (some z, 1, bytes)) (hz1 : z.cells.size = 1)
    (v : Value) (n : Nat) (xs : List Value) (hs : a.eval s = v) (hown : w.ownsRow base e 1 v n xs) (u : Value) (hu : u.oneCell' = true) (ad : Addr)
    (hx : a.eval x = .slice (some ad) 1 1) (hc : w.cell? ad = some u)
    (hbytes : (n + 1) * bytes ≤ 140737488355328) (h63 : n + 1 ≤ maxLen) (hbase : base ≤ w.heap.size)
    (h : ∀ v' w', w'.ownsRow base e 1 v' (n + 1) (xs ++ [u]) → w.grownBy w' v.ownBlock → Next w v v' → wpList P ops Q rest (a.put o.dst v') w') :
    wpList P ops Q (o :: rest) a w := by
  refine wpList_plain hgd fun K hK => ?_
  obtain ⟨i, hi, hz, hsize, hby⟩ := info_parts hinfo
  obtain ⟨v', w', hr, h2, h3, h4⟩ := run_append_next (P := P) w base t o.type e i z 1 bytes ht hi hz hsize hby hz1 (by omega) v n xs hown ad 1 1 [u] rfl
    (by intro j y hj; match j, hj with | 0, hj => simp at hj; subst hj; simpa [Addr.add] using hc) (by intro y hy; simp at hy; subst hy; exact hu) (by omega) h63 hbytes hbase
  unfold Oper.wp execOp
  simp only [ho, resolve, invoke, builtin, Sem.run_bind, Sem.run_pure, Result.andThen_ok, List.map_toArray, List.map_cons, List.map_nil, hs, hx, hr]
  exact hK _ _ (h v' w' h2 h3 h4)

end Go.Proofs.Ytfmhedfiklidhaa

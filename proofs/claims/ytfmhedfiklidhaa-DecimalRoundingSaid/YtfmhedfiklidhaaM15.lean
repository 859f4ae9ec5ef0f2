/-
  Contracts of the functions that the statements reach, in the order in which they are built: DecC.
-/
import Derived.Test.YtfmhedfiklidhaaM6
import Derived.Test.YtfmhedfiklidhaaM10
import Derived.Test.YtfmhedfiklidhaaM14
set_option linter.unusedVariables false
set_option linter.unusedSimpArgs false
set_option linter.constructorNameAsVariable false
set_option linter.deprecated false

/-
  The walk of decimal.digits: by contract.
-/
namespace Go.Proofs.Ytfmhedfiklidhaa
open Go.RowKit

theorem Try.infoU8 : (Try.prog.info? 5).map (fun i => (i.zero, i.size, i.bytes)) = some (some (.int .u8 0), 1, 1) := by kernel_rfl
def lenOf : Value → Nat | .slice _ n _ => n | _ => 0
def intV : Value → Nat | .int _ n => n.toNat | _ => 0

/-- The digits' bytes, the least first. -/
def lowB (k N : Nat) : List Value := ((padD k N).map dch).map u8v
theorem lowB_succ (k N : Nat) : lowB (k + 1) N = lowB k N ++ [u8v (dch (N / 10 ^ k % 10))] := by
  unfold lowB; rw [padD_succ, List.map_append, List.map_append]; rfl
theorem dig_of_part {N j k : Nat} (hk : k < 9) : N / 10 ^ (9 * j + k) % 10 = N / 10 ^ (9 * j) % 1000000000 / 10 ^ k % 10 := by
  have h1 : (1000000000 : Nat) = 10 ^ k * 10 ^ (9 - k) := by
    rw [← Nat.pow_add, show k + (9 - k) = 9 by omega]
  have h2 : (10 : Nat) ∣ 10 ^ (9 - k) := ⟨10 ^ (8 - k), by rw [← Nat.pow_succ', show 9 - k = (8 - k).succ by omega]⟩
  rw [Nat.pow_add, ← Nat.div_div_eq_div_mul, h1, Nat.mod_mul_right_div_self, Nat.mod_mod_of_dvd _ h2]
theorem part_step {N j : Nat} : N / 10 ^ (9 * (j + 1)) = N / 10 ^ (9 * j) / 1000000000 := by
  rw [show 9 * (j + 1) = 9 * j + 9 by omega, Nat.pow_add, ← Nat.div_div_eq_div_mul]
theorem pow_div_step (R k : Nat) : R / 10 ^ (k + 1) = R / 10 ^ k / 10 := by rw [Nat.pow_succ, ← Nat.div_div_eq_div_mul]
theorem byte_dch (y : Nat) : IntKind.u8.wrap (IntKind.u64.wrap (48 + ((y % 10 : Nat) : Int))) = (((dch (y % 10)).toNat : Nat) : Int) := by
  rw [dch_toNat (Nat.mod_lt _ (by decide)), IntKind.wrap_u64, IntKind.wrap_u8]
  omega

theorem U32s.grown {w w' : World} {a : Option Addr} {l : List Nat} {row : Option Nat} (h : U32s w a l) (hg : w.grownBy w' row) (hne : ∀ g off, l ≠ [] → a = some ⟨g, off, none⟩ → row ≠ some g) : U32s w' a l := by
  by_cases hl : l = []
  · rw [hl]; exact U32s.nil _ _
  obtain ⟨b, off, rfl, hb, hc⟩ := h.open hl
  have hbk : w'.heap[b]? = w.heap[b]? := hg.block b hb (fun e => hne b off hl rfl e.symm)
  refine ⟨h.lim, h.len, .inr ⟨b, off, rfl, Nat.lt_of_lt_of_le hb hg.size, fun j d hj => ?_⟩⟩
  have hjl := (List.getElem?_eq_some_iff.1 hj).1
  have : d = dig l j := by unfold dig; rw [List.getD_eq_getElem?_getD, hj]; rfl
  rw [this, World.cell?_of_block (w := w) (a := ⟨b, off + j, none⟩) hbk]
  exact hc j hjl

theorem ownsRow_belowD {w w' : World} {base : Nat} {e : TypeId} {size : Nat} {v : Value} {n : Nat} {xs : List Value} (h : w.ownsRow base e size v n xs) (hb : Below w.heap.size w w') : w'.ownsRow base e size v n xs :=
  h.kept (row := none) ⟨hb.os, hb.tape, hb.output, hb.size, fun k hk _ => hb.block k hk⟩ (by cases hv : v.ownBlock <;> simp)
theorem lenOf_own {w : World} {base E n : Nat} {v : Value} {xs : List Value} (h : w.ownsRow base E 1 v n xs) : lenOf v = n := by
  rcases h.2 with ⟨rfl, h0⟩ | ⟨g, cap, cur, rfl, _⟩
  · exact h0.symm
  · rfl
/-- While nine digits are laid: the quotient, apart from the row of bytes. -/
structure DigJ (w1 w : World) (Bq Cq : Nat) (a : Option Addr) (lq : List Nat) (b : Value) (n N : Nat) : Prop where
  q : U32s w a lq
  qa : ∀ g off, lq ≠ [] → a = some ⟨g, off, none⟩ → Bq ≤ g ∧ g < Cq
  sep : ∀ g, b.ownBlock = some g → g < Bq ∨ Cq ≤ g
  own : w.ownsRow w1.heap.size 5 1 b n (lowB n N)
  bl : Below w1.heap.size w1 w
  sz : Cq ≤ w.heap.size
theorem DigJ.step {w1 w w' : World} {Bq Cq : Nat} {a : Option Addr} {lq : List Nat} {b b' : Value} {n N : Nat} (h : DigJ w1 w Bq Cq a lq b n N) (ho : w'.ownsRow w1.heap.size 5 1 b' (n + 1) (lowB n N ++ [u8v (dch (N / 10 ^ n % 10))])) (hg : w.grownBy w' b.ownBlock) (hx : Next w b b') : DigJ w1 w' Bq Cq a lq b' (n + 1) N := by
  refine ⟨h.q.grown hg (fun g off hl ha e => ?_), h.qa, fun g hb => ?_, by rw [lowB_succ]; exact ho, h.bl.grown hg h.bl.size (fun k hk => (h.own.lt k hk).1), Nat.le_trans h.sz hg.size⟩
  · have h1 := h.qa g off hl ha
    have h2 := h.sep g e
    omega
  · rcases hx with h1 | ⟨k, h1, h2⟩
    · rw [h1] at hb; exact h.sep g hb
    · rw [h1] at hb; cases hb; right; exact Nat.le_trans h.sz h2

/-- Between the rounds: what is left of the number, and the digits so far. -/
structure DigI (w1 w : World) (L j N : Nat) (a : Option Addr) (c : Nat) (l : List Nat) (b : Value) : Prop where
  cap : l.length ≤ c
  u : U32s w a l
  val : lval l = N / 10 ^ (9 * j)
  le : l.length ≤ L
  jl : 9 * j ≤ nd N + 8
  own : w.ownsRow w1.heap.size 5 1 b (9 * j) (lowB (9 * j) N)
  bl : Below w1.heap.size w1 w

set_option maxRecDepth 100000 in
set_option maxHeartbeats 3200000 in
theorem dDigits_zero {w : World} {a : Option Addr} {l : List Nat} (c : Nat) (hc : l.length ≤ c) (h : U32s w a l) (hx : lval l = 0) :
    Calls Try.prog 27 #[.slice a l.length c] w fun e w' => e = .returned (.string (Str (digN 0))) ∧ Below w.heap.size w w' := by
  have HU := Lib.hid h
  have HX := Lib.hid hx
  have hll := h.len
  have HOf : Hid (∀ wv, Calls Try.prog 45 #[.int .u64 1000000000] wv (RetN wv 1000000000)) := fun wv => nOf 1000000000 (by decide) wv
  clear h hx
  go_enter Try.func27, Try.ntmps27
  go_wp2_with fail
  refine (HOf.out _).mono ?_
  rintro e w1 ⟨a2, c2, rfl, _, _, hb1⟩
  have HB := Lib.hid hb1
  have HZ := Lib.hid (nBits_zero c hc (HU.out.below hb1) HX.out)
  clear hb1 HOf
  go_wp2
  refine wp_loop_rounds 1 ?_
  rw [rounds_succ]
  go_wp2_with fail
  refine HZ.out.mono ?_
  rintro e w2 ⟨rfl, rfl⟩
  go_wp2
  refine wp_loop_rounds 1 ?_
  rw [rounds_succ]
  go_wp2
  go_ret
  exact ⟨rfl, HB.out⟩

theorem limbs_e9 : (limbs 1000000000).length = 1 := by
  have h1 := limbs_len_le (n := 1000000000) (k := 1) (by decide)
  have h2 := limbs_pos_iff.2 (show 0 < 1000000000 by decide)
  omega
theorem lowB_get {k N x : Nat} (h : x < k) : (lowB k N)[x]? = some (u8v (dch (N / 10 ^ x % 10))) := by
  unfold lowB; rw [List.getElem?_map, List.getElem?_map, padD_get h]; rfl
theorem own_parts {w : World} {base E n : Nat} {v : Value} {xs : List Value} (h : w.ownsRow base E 1 v n xs) (hn : 0 < n) : ∃ g cap, v = .slice (some ⟨g, 0, none⟩) n cap ∧ n ≤ cap ∧ base ≤ g ∧ g < w.heap.size ∧ (∀ x, w.frozen? ⟨g, x, none⟩ = false) := by
  rcases h.2 with ⟨_, h0⟩ | ⟨g, cap, cur, rfl, hb, hg, hnc, _⟩
  · omega
  · exact ⟨g, cap, rfl, hnc, hb, (Array.getElem?_eq_some_iff.1 hg).1, fun x => by simp [World.frozen?, hg]⟩
theorem rowU8_of_own {w : World} {base E n N g cap : Nat} (h : w.ownsRow base E 1 (.slice (some ⟨g, 0, none⟩) n cap) n (lowB n N)) (hlt : g < w.heap.size) (hf : ∀ x, w.frozen? ⟨g, x, none⟩ = false) : RowU8 w g n (fun x => dch (N / 10 ^ x % 10)) :=
  ⟨hlt, fun x hx => by have := h.cells (g := g) rfl x _ (lowB_get hx); simpa [Addr.add_lit] using this, fun x _ => hf x⟩
theorem digN_get {N x : Nat} (hN : N ≠ 0) (hx : x < nd N) : (digN N)[x]? = some (dch (N / 10 ^ (nd N - 1 - x) % 10)) := by
  rw [digN_nd hN, List.getElem?_reverse (by simpa [padD_len] using hx), List.getElem?_map, List.length_map, padD_len, padD_get (by omega)]
  rfl

set_option maxRecDepth 100000 in
set_option maxHeartbeats 3200000 in
theorem dDigits_pos {w : World} {a : Option Addr} {l : List Nat} {N : Nat} (c : Nat) (hc : l.length ≤ c) (h : U32s w a l) (hx : lval l = N) (hN : N ≠ 0) (hr : l.length ≤ 1048576) :
    Calls Try.prog 27 #[.slice a l.length c] w fun e w' => e = .returned (.string (Str (digN N))) ∧ Below w.heap.size w w' := by
  have HU := Lib.hid h
  have HX := Lib.hid hx
  have hnl : nd N ≤ 10485760 := by have := nd_limbs (n := N) (k := l.length) (by rw [← hx]; exact lval_lt h.lim); omega
  have hnp : 0 < nd N := by rw [nd_pos hN]; omega
  obtain ⟨T, hT⟩ : ∃ T : Nat, T = 1000000000 := ⟨_, rfl⟩
  have HOf : Hid (∀ wv, Calls Try.prog 45 #[.int .u64 1000000000] wv (RetN wv T)) := fun wv => by rw [hT]; exact nOf 1000000000 (by decide) wv
  have HT := Lib.hid hT
  have HT1 : Hid ((limbs T).length = 1) := by unfold Hid; rw [hT]; exact limbs_e9
  have HNz := Lib.hid hN
  clear h hx hT hN
  go_enter Try.func27, Try.ntmps27
  go_wp2_with fail
  refine (HOf.out _).mono ?_
  rintro e w1 ⟨a2, c2, rfl, hc2, hu2, hb1⟩
  have HB := Lib.hid hb1
  have HU2 := Lib.hid hu2
  have HS := Lib.hid (show DigI w1 w1 l.length 0 N a c l (.slice none 0 0) from ⟨hc, HU.out.below hb1, by rw [Nat.mul_zero, Nat.pow_zero, Nat.div_one]; exact HX.out, Nat.le_refl _, by omega, by rw [Nat.mul_zero]; exact World.ownsRow_nil _ _ _ _, Below.refl _ _⟩)
  clear hb1 hu2 HOf
  go_wp2
  go_loopw [0, 3] (fun n b wr => ∃ (j : Nat) (a' : Option Addr) (c' : Nat) (l' : List Nat), n = .slice a' l'.length c' ∧ Hid (DigI w1 wr l.length j N a' c' l' b)) (fun _ b _ => nd N + 9 - lenOf b)
  case atStart => exact ⟨0, a, c, l, rfl, HS.out⟩
  case round =>
    obtain ⟨j, a', c', l', rfl, HI⟩ := hrel
    by_cases hz : N / 10 ^ (9 * j) = 0
    · have HZ := Lib.hid (nBits_zero c' HI.out.cap HI.out.u (HI.out.val.trans hz))
      have hnd : nd N ≤ 9 * j := nd_div.1 hz
      obtain ⟨g, cap, rfl, hcap, hg1, hg2, hg3⟩ := own_parts HI.out.own (by omega)
      have HRow := Lib.hid (rowU8_of_own HI.out.own hg2 hg3)
      have HBl := Lib.hid HI.out.bl
      have hBz := HB.out.size
      have hjl := HI.out.jl
      clear hz hg3
      go_wp2_with fail
      refine HZ.out.mono ?_
      rintro e w' ⟨rfl, rfl⟩
      go_wp2
      generalize hM : 9 * j = M at *
      go_loop [3] (fun b => ∃ m : Nat, nd N ≤ m + 1 ∧ m + 1 ≤ M ∧ b = .slice (some ⟨g, 0, none⟩) (m + 1) cap) (fun b => lenOf b)
      case atStart => exact ⟨M - 1, by omega, by omega, by rw [show M - 1 + 1 = M by omega]⟩
      case round =>
        obtain ⟨m, hm1, hm2, rfl⟩ := hrel
        have cm := HRow.out.at_ m (by omega)
        unfold u8v at cm
        by_cases hlt : nd N ≤ m
        · rw [nd_div.2 hlt] at cm
          have e0 : ((dch (0 % 10)).toNat : Int) = 48 := by rw [dch_toNat (by decide)]; rfl
          rw [e0] at cm
          obtain ⟨p, rfl⟩ : ∃ p, m = p + 1 := ⟨m - 1, by omega⟩
          go_wp2
          go_round
          case rel => exact ⟨p, by omega, by omega, by go_num⟩
          case measure => simp [lenOf]
        · have hmn : nd N = m + 1 := by omega
          have hd9 : N / 10 ^ m % 10 ≠ 0 := by
            have h1 := (nd_bound N).2 HNz.out
            have h2 := (nd_bound N).1
            rw [hmn, Nat.add_sub_cancel] at h1
            rw [hmn, Nat.pow_succ] at h2
            have hp : 0 < 10 ^ m := Nat.pow_pos (by decide)
            have h3 : 1 ≤ N / 10 ^ m := (Nat.le_div_iff_mul_le hp).2 (by omega)
            have h4 : N / 10 ^ m < 10 := Nat.div_lt_of_lt_mul (by rw [Nat.mul_comm] at h2; rw [Nat.mul_comm]; omega)
            omega
          have e0 : (((dch (N / 10 ^ m % 10)).toNat : Int) == 48) = false := by
            rw [beq_eq_false_iff_ne, dch_toNat (Nat.mod_lt _ (by decide))]; omega
          have HRev := Lib.hid (sReverse cap (HRow.out.less (m := m + 1) (by omega)) (by omega) (by omega))
          have HMn := Lib.hid hmn
          generalize ((dch (N / 10 ^ m % 10)).toNat : Int) = dv at *
          clear hd9 hmn hlt hnp hnd
          go_wp2_with fail
          refine HRev.out.mono ?_
          rintro e w3 ⟨⟨v3, rfl⟩, hO, hR3⟩
          have HE := Lib.hid (HB.out.trans ((HBl.out.mono hBz).trans (hO.below (by omega))))
          have hcv := run_convert_bytes_arg (P := Try.prog) w3 36 5 Try.underlying36 Try.underlying5 g 0 (m + 1) cap ((digN N).map fun c => (c.toNat : Int)) (by rw [List.length_map, digN_len, if_neg HNz.out, HMn.out]) (fun i hi => by
            have h1 := hR3.at_ i hi
            have h2 := digN_get (x := i) HNz.out (by rw [HMn.out]; exact hi)
            rw [HMn.out] at h2
            rw [Nat.zero_add, h1, List.getD_eq_getElem?_getD, List.getElem?_map, h2]
            rfl) 9 Try.underlying9
          rw [strOf_u8] at hcv
          clear hO hR3 HRev
          go_wp2
          go_ret
          exact ⟨rfl, HE.out⟩
    · have hnd : 9 * j < nd N := Nat.lt_of_not_le fun hle => hz (nd_div.2 hle)
      have HZ := Lib.hid (nBits_pos c' HI.out.cap HI.out.u HI.out.val hz (by have := HI.out.le; omega))
      have HDv := Lib.hid (nDivModF c' c2 HI.out.cap hc2 HI.out.u (HU2.out.below HI.out.bl) HI.out.val (lval_limbs T) (by have := HI.out.le; omega) HT1.out)
      clear hz
      go_wp2_with fail
      refine HZ.out.mono ?_
      rintro e w' ⟨⟨nb, rfl, hnb1, hnb2⟩, rfl⟩
      go_wp2_with fail
      refine HDv.out.mono ?_
      rintro e w3 ⟨a3, c3, a4, c4, rfl, k1, k2, k3, k4, k5, k6⟩
      have hR9 : N / 10 ^ (9 * j) % T < 1000000000 := by rw [HT.out]; exact Nat.mod_lt _ (by decide)
      have HUi := Lib.hid (nUint c4 k2 k4 (lval_limbs _) (limbs_len64 (by omega)))
      have HJ := Lib.hid (show DigJ w1 w3 wr.heap.size w3.heap.size a3 (limbs (N / 10 ^ (9 * j) / T)) u3 (9 * j) N from ⟨k3, fun g off hl ha => by
          rcases k6 with h0 | ⟨g', off', e1, e2⟩
          · exact absurd h0 hl
          · rw [ha] at e1
            cases e1
            obtain ⟨b', o', e3, e4, _⟩ := k3.open hl
            rw [ha] at e3
            cases e3
            exact ⟨e2, e4⟩, fun g hg => .inl (HI.out.own.lt g hg).2, ownsRow_belowD HI.out.own k5, HI.out.bl.trans (k5.mono HI.out.bl.size), Nat.le_refl _⟩)
      have hjl : 9 * j + 9 ≤ nd N + 8 := by omega
      have hlq : (limbs (N / 10 ^ (9 * j) / T)).length ≤ l.length := by
        refine Nat.le_trans (limbs_len_mono (b := N) ?_) (by rw [← HX.out]; exact limbs_len_of_lval HU.out.lim)
        rw [Nat.div_div_eq_div_mul]; exact Nat.div_le_self _ _
      have HK1 := Lib.hid k1
      clear k1 k2 k3 k4 k5 k6 HZ HDv HI
      generalize hR : N / 10 ^ (9 * j) % T = R at *
      have HR := Lib.hid hR
      clear hR
      go_wp2_with fail
      refine HUi.out.mono ?_
      rintro e w' ⟨rfl, rfl⟩
      obtain ⟨Bq, hBq⟩ : ∃ Bq, Bq = wr.heap.size := ⟨_, rfl⟩
      obtain ⟨Cq, hCq⟩ : ∃ Cq, Cq = w3.heap.size := ⟨_, rfl⟩
      rw [← hBq, ← hCq] at HJ
      have HLen := Lib.hid (lenOf_own HJ.out.own)
      obtain ⟨lq, hlqe⟩ : ∃ lq, lq = limbs (N / 10 ^ (9 * j) / T) := ⟨_, rfl⟩
      have HVq : Hid (lval lq = N / 10 ^ (9 * (j + 1))) := by unfold Hid; rw [hlqe, lval_limbs, part_step, HT.out]
      rw [← hlqe] at HJ HK1 hlq ⊢
      clear hBq hCq hlqe
      go_wp2
      go_loopw [3, 8, 26] (fun b x i wx => ∃ k : Nat, k ≤ 9 ∧ i = .int .i64 (k : Int) ∧ x = .int .u64 ((R / 10 ^ k : Nat) : Int) ∧ Hid (DigJ w1 wx Bq Cq a3 lq b (9 * j + k) N)) (fun _ _ i _ => 9 - (intOf i).toNat)
      case atStart => exact ⟨0, Nat.zero_le _, rfl, by rw [Nat.pow_zero, Nat.div_one], HJ.out⟩
      case round =>
        obtain ⟨k, hk, rfl, rfl, HJk⟩ := hrel
        have hBk := HJk.out.bl.size
        by_cases hlt : k < 9
        · have hdp : N / 10 ^ (9 * j + k) % 10 = R / 10 ^ k % 10 := by rw [dig_of_part hlt, ← HR.out, HT.out]
          have hds := pow_div_step R k
          have hy : R / 10 ^ k < 1000000000 := Nat.lt_of_le_of_lt (Nat.div_le_self _ _) hR9
          have HDp := Lib.hid hdp
          have HDs := Lib.hid hds
          clear hdp hds
          generalize R / 10 ^ k = y at *
          have HBy := Lib.hid (byte_dch y)
          go_wp2_with (at_builtin; refine wpList_app1 rfl (.tmp 28) (.tmp 33) 36 rfl w1.heap.size 5 (.int .u8 0) 1 Try.underlying36 Try.infoU8 rfl u3 (9 * j + k) _ rfl HJk.out.own _ rfl rfl (by omega) (by unfold maxLen; omega) hBk ?_; intro v' w' hown hg hn)
          have hb : (48 + (y : Int) % 10) = ((dch (y % 10)).toNat : Int) := by rw [dch_toNat (Nat.mod_lt _ (by decide))]; omega
          rw [hb, ← HDp.out] at hown
          have HJ2 := HJk.out.step hown hg hn
          refine ⟨⟨k + 1, hlt, by go_num, by rw [HDs.out]; go_num, HJ2⟩, by simp [intOf]; omega⟩
        · obtain rfl : k = 9 := by omega
          have h1 := HLen.out
          have h2 := lenOf_own HJk.out.own
          have H1 := Lib.hid h1
          have H2 := Lib.hid h2
          clear h1 h2
          go_wp2
          go_roundw
          case rel => exact ⟨j + 1, a3, c3, lq, rfl, HK1.out, HJk.out.q, HVq.out, by omega, by omega, HJk.out.own, HJk.out.bl⟩
          case measure =>
            have h1 := H1.out
            have h2 := H2.out
            omega

theorem dDigits {w : World} {a : Option Addr} {l : List Nat} {N : Nat} (c : Nat) (hc : l.length ≤ c) (h : U32s w a l) (hx : lval l = N) (hr : l.length ≤ 1048576) :
    Calls Try.prog 27 #[.slice a l.length c] w fun e w' => e = .returned (.string (Str (digN N))) ∧ Below w.heap.size w w' := by
  by_cases hN : N = 0
  · subst hN; exact dDigits_zero c hc h hx
  · exact dDigits_pos c hc h hx hN hr

end Go.Proofs.Ytfmhedfiklidhaa

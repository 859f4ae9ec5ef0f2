/-
  Contracts of the functions that the statements reach, in the order in which they are built: DecD, DecE, DecF, DecG, DecH, DecI, DecJ, DecP.
-/
import Derived.Test.YtfmhedfiklidhaaM15
import Derived.Test.YtfmhedfiklidhaaM7
import Derived.Laws.IdiomStrings
import Derived.Test.YtfmhedfiklidhaaM14
import Derived.Test.YtfmhedfiklidhaaM13
import Derived.Deep.RegionHeld3
import Derived.Deep.DeepCutAuto
set_option linter.unusedVariables false
set_option linter.unusedSimpArgs false
set_option linter.constructorNameAsVariable false
set_option linter.deprecated false

/-
  The walk of decimal.value: by contract.
-/
namespace Go.Proofs.Ytfmhedfiklidhaa
open Go.RowKit

def strLen : Value → Nat | .string s => s.size | _ => 0
theorem valD_chunk (l : List UInt8) (k m : Nat) (h : k + m ≤ l.length) : valD (l.take (k + m)) = valD (l.take k) * 10 ^ m + valD ((l.drop k).take m) := by
  have e : ((l.drop k).take m).length = m := by rw [List.length_take, List.length_drop]; omega
  rw [List.take_add, valD_append, e]
theorem limbs_len_dec {V n : Nat} (h : V < 10 ^ n) : (limbs V).length ≤ n := limbs_len_le (Nat.lt_of_lt_of_le h (Nat.pow_le_pow_left (by decide) n))
theorem take_succ_atD {α : Type} {l : List α} {k : Nat} {x : α} (hx : l[k]? = some x) : l.take (k + 1) = l.take k ++ [x] := by
  rw [List.take_add_one, hx]; rfl
/-- A string's bytes, in new memory. -/
theorem conv_bytes {P : Program} (W : World) {src dst e : TypeId} (hs : P.underlying src = some .string) (hd : P.underlying dst = some (.slice e)) (he : P.underlying e = some (.int .u8)) (l : List UInt8) :
    ∃ c w', (convert src dst (.string (Str l))).run P W = .ok (.slice (some ⟨W.heap.size, 0, none⟩) l.length c) w' ∧ Below W.heap.size W w' ∧ W.heap.size < w'.heap.size ∧ ∀ x, x < l.length → w'.cell? ⟨W.heap.size, x, none⟩ = some (u8v (l.getD x 0)) := by
  refine ⟨_, _, by rw [run_bytes_of_string W src dst e (Str l) hs hd he, Str_size], (Below.refl _ _).drew.alloc (Nat.le_refl _) _, by simp, fun x hx => ?_⟩
  have h1 := bytesRow_at (Str l) (grownCap W (Str l).size 0 e) x (by simpa [Str] using hx)
  have h2 := World.cell?_alloc_mark W.drew (bytesRow (Str l) (grownCap W (Str l).size 0 e)) e ((bytesRow (Str l) (grownCap W (Str l).size 0 e)).size, (bytesRow (Str l) (grownCap W (Str l).size 0 e)).size + 1) x
  refine (h2.trans h1).trans ?_
  unfold u8v
  simp [Str, List.getD_eq_getElem?_getD, hx]

set_option maxRecDepth 100000 in
set_option maxHeartbeats 3200000 in
theorem dValue {w : World} {l : List UInt8} (hl : ∀ c ∈ l, isD c = true) (hn : l.length ≤ 100000) :
    Calls Try.prog 41 #[.string (Str l)] w (RetN w (valD l)) := by
  have HD := Lib.hid hl
  clear hl
  go_enter Try.func41, Try.ntmps41
  go_wp2
  go_loopw [0, 3] (fun s n wr => ∃ (k : Nat) (a : Option Addr) (c : Nat), k ≤ l.length ∧ s = .string (Str (l.drop k)) ∧ n = .slice a (limbs (valD (l.take k))).length c ∧ (limbs (valD (l.take k))).length ≤ c ∧ Hid (U32s wr a (limbs (valD (l.take k)))) ∧ Hid (Below w.heap.size w wr)) (fun s _ _ => strLen s)
  case atStart => exact ⟨0, none, 0, Nat.zero_le _, rfl, by rw [List.take_zero, valD_nil, limbs_zero]; rfl, by rw [List.take_zero, valD_nil, limbs_zero]; exact Nat.le_refl _, by unfold Hid; rw [List.take_zero, valD_nil, limbs_zero]; exact U32s.nil _ _, Below.refl _ _⟩
  case round =>
    obtain ⟨k, a, c, hk, rfl, rfl, hc, HU, HB⟩ := hrel
    have hsz := Str_size (l.drop k)
    rw [List.length_drop] at hsz
    by_cases hlt : k < l.length
    · obtain ⟨m, hm⟩ : ∃ m, m = min (l.length - k) 9 := ⟨_, rfl⟩
      have hmin : min (((l.length - k : Nat)) : Int) 9 = (m : Int) := by omega
      have hpos : decide (0 < l.length - k) = true := decide_eq_true (by omega)
      obtain ⟨ch, hch⟩ : ∃ ch, ch = (l.drop k).take m := ⟨_, rfl⟩
      have hex : (Str (l.drop k)).extract 0 m = Str ch := by rw [Str_extract, List.drop_zero, Nat.sub_zero, hch]
      have hex2 : (Str (l.drop k)).extract m (l.length - k) = Str (l.drop (k + m)) := by
        rw [Str_extract, List.drop_drop, List.take_of_length_le (by rw [List.length_drop]; omega)]
      have hcl : ch.length = m := by rw [hch, List.length_take, List.length_drop]; omega
      have HVn := Lib.hid (valD_chunk l k m (by omega))
      rw [← hch] at HVn
      have HCd : Hid (∀ c ∈ ch, isD c = true) := fun c hc => HD.out c (List.mem_of_mem_drop (List.mem_of_mem_take (by rw [← hch]; exact hc)))
      have hm9 : m ≤ 9 := by omega
      have hm1 : 1 ≤ m := by omega
      have hkm : k + m ≤ l.length := by omega
      have HVb : Hid (valD (l.take k) < 10 ^ k) := by
        have := valD_lt (l.take k) fun c hc => HD.out c (List.mem_of_mem_take hc)
        rwa [List.length_take, Nat.min_eq_left hk] at this
      have HVk := Lib.hid (limbs_len_dec (valD_lt (l.take k) fun c hc => HD.out c (List.mem_of_mem_take hc)))
      obtain ⟨cc, w2, hrun, hb2, hgt, hcells⟩ := conv_bytes (P := Try.prog) wr (src := 9) (dst := 36) Try.underlying9 Try.underlying36 Try.underlying5 ch
      rw [hcl] at hrun hcells
      have HCells := Lib.hid hcells
      have HB2 := Lib.hid (HB.out.trans (hb2.mono HB.out.size))
      have HU2 := Lib.hid (HU.out.below hb2)
      have HEx2 := Lib.hid hex2
      have HSz := Lib.hid hsz
      have HCl := Lib.hid hcl
      clear hm hch hcells hb2 hex2 hcl
      generalize valD (l.take k) = V at *
      go_wp2
      go_loop [5, 6, 20] (fun x sc i => ∃ q : Nat, q ≤ m ∧ i = .int .i64 (q : Int) ∧ x = .int .u64 ((valD (ch.take q) : Nat) : Int) ∧ sc = .int .u64 ((10 ^ q : Nat) : Int)) (fun _ _ i => m - (intOf i).toNat)
      case atStart => exact ⟨0, Nat.zero_le _, rfl, rfl, rfl⟩
      case round =>
        obtain ⟨q, hq, rfl, rfl, rfl⟩ := hrel
        have hXb : valD (ch.take q) < 10 ^ q := by
          have h1 := valD_lt (ch.take q) fun c hc => HCd.out c (List.mem_of_mem_take hc)
          rwa [List.length_take, Nat.min_eq_left (by rw [HCl.out]; exact hq)] at h1
        have hPb : 10 ^ q ≤ 10 ^ 9 := Nat.pow_le_pow_right (by decide) (by omega)
        by_cases hltq : q < m
        · have hPb8 : 10 ^ q ≤ 10 ^ 8 := Nat.pow_le_pow_right (by decide) (by omega)
          have cq := HCells.out q hltq
          have hqc : q < ch.length := by rw [HCl.out]; exact hltq
          have hge : ch[q]? = some (ch.getD q 0) := by rw [List.getD_eq_getElem?_getD, List.getElem?_eq_getElem hqc]; rfl
          have hdc := HCd.out _ (List.mem_of_getElem? hge)
          have hvs : valD (ch.take (q + 1)) = 10 * valD (ch.take q) + valC (ch.getD q 0) := by
            rw [take_succ_atD hge, valD_snoc]
          generalize ch.getD q 0 = cb at *
          unfold isD at hdc
          rw [decide_eq_true_eq] at hdc
          obtain ⟨hc1, hc2⟩ := hdc
          have HVs : Hid (((valD (ch.take (q + 1)) : Nat) : Int) = 10 * ((valD (ch.take q) : Nat) : Int) + ((cb.toNat : Int) - 48)) := by
            unfold Hid; rw [hvs]; unfold valC; omega
          have HPs : Hid (((10 ^ (q + 1) : Nat) : Int) = ((10 ^ q : Nat) : Int) * 10) := by unfold Hid; rw [Nat.pow_succ]; omega
          unfold u8v at cq
          generalize valD (ch.take q) = X at *
          generalize 10 ^ q = P at *
          have hX8 : X < 100000000 := by omega
          have hP8 : P ≤ 100000000 := by omega
          clear hvs hge hXb hPb hPb8
          go_wp2
          refine ⟨⟨q + 1, by omega, by go_num, by rw [HVs.out], by rw [HPs.out]⟩, by simp [intOf]; omega⟩
        · obtain rfl : q = m := by omega
          rw [List.take_of_length_le (by rw [HCl.out]; exact Nat.le_refl _)] at hXb ⊢
          have hP64 : 10 ^ q < 18446744073709551616 := Nat.lt_of_le_of_lt hPb (by decide)
          have hX64 : valD ch < 18446744073709551616 := by omega
          have HO1 := Lib.hid (fun wv => nOf (10 ^ q) hP64 wv)
          have HO2 := Lib.hid (fun wv => nOf (valD ch) hX64 wv)
          have HL1 := Lib.hid (limbs_len64 hP64)
          have HL2 := Lib.hid (limbs_len64 hX64)
          have hVlen : (limbs V).length ≤ 100000 := by have := HVk.out; rw [List.length_take] at this; omega
          have HVm : Hid ((limbs (V * 10 ^ q)).length ≤ 100000) := by
            refine Nat.le_trans (limbs_len_dec (n := k + q) ?_) (by omega)
            rw [Nat.pow_add]
            exact Nat.mul_lt_mul_of_pos_right HVb.out (Nat.pow_pos (by decide))
          clear hXb hPb hP64 hX64
          generalize 10 ^ q = P at *
          generalize valD ch = X at *
          go_wp2_with fail
          refine (HO1.out _).mono ?_
          rintro e w3 ⟨a3, c3, rfl, k1, k2, hb3⟩
          have HM := Lib.hid (nMul c c3 hc k1 (HU2.out.below hb3) k2 (lval_limbs V) (lval_limbs P) (by have := HL1.out; omega))
          have HB3 := Lib.hid (HB2.out.trans (hb3.mono HB2.out.size))
          clear k1 k2 hb3
          go_wp2_with fail
          refine HM.out.mono ?_
          rintro e w4 ⟨a4, c4, rfl, k1, k2, hb4⟩
          have HK1 := Lib.hid k1
          have HK2 := Lib.hid k2
          have HB4 := Lib.hid (HB3.out.trans (hb4.mono HB3.out.size))
          clear k1 k2 hb4 HM
          go_wp2_with fail
          refine (HO2.out _).mono ?_
          rintro e w5 ⟨a5, c5, rfl, k1, k2, hb5⟩
          have HA := Lib.hid (nAdd c4 c5 HK1.out k1 (HK2.out.below hb5) k2 (lval_limbs (V * P)) (lval_limbs X) (by have := HL2.out; have := HVm.out; omega))
          have HB5 := Lib.hid (HB4.out.trans (hb5.mono HB4.out.size))
          clear k1 k2 hb5
          go_wp2_with fail
          refine HA.out.mono ?_
          rintro e w6 ⟨a6, c6, rfl, k1, k2, hb6⟩
          have HK3 := Lib.hid k1
          have HK4 := Lib.hid k2
          have HB6 := Lib.hid (HB5.out.trans (hb6.mono HB5.out.size))
          clear k1 k2 hb6 HA
          have hex2 := HEx2.out
          have hszr := HSz.out
          go_wp2
          refine ⟨⟨k + q, a6, c6, hkm, rfl, by rw [HVn.out], by rw [HVn.out]; exact HK3.out, by unfold Hid; rw [HVn.out]; exact HK4.out, HB6.out⟩, ?_⟩
          show (Str _).size < (Str _).size
          rw [Str_size, Str_size, List.length_drop, List.length_drop]
          omega
    · obtain rfl : k = l.length := by omega
      have HV := HU.out
      rw [List.take_length] at HV hc
      go_wp2
      go_ret
      exact ⟨a, c, by rw [List.take_length]; rfl, hc, HV, HB.out⟩

end Go.Proofs.Ytfmhedfiklidhaa

/-
  The walk of decimal.Text: by contract.
-/
namespace Go.Proofs.Ytfmhedfiklidhaa
open Go.RowKit

/-- The text of a rational number. -/
def textL (x : RatL) : List UInt8 := (if x.neg then [45] else []) ++ (digN (lval x.num) ++ (if x.den.length = 0 then [] else 47 :: digN (lval x.den)))

theorem ret_str {a b : List UInt8} (h : a = b) : Ending.returned (.string (Str a)) = Ending.returned (.string (Str b)) := by rw [h]
theorem add_run {P : Program} (a b : List UInt8) (h : a.length + b.length ≤ 9223372036854775807) (w : World) : (Op.stringOp .add (Str a) (Str b)).run P w = .ok (.string (Str (a ++ b))) w := by
  rw [run_string_add_sum w _ _ (by rw [Str_size, Str_size]; exact h), Str_append]
theorem add_run' {P : Program} (c : UInt8) (b : List UInt8) (h : b.length ≤ 9223372036854775800) (w : World) : (Op.stringOp .add ⟨#[c]⟩ (Str b)).run P w = .ok (.string (Str (c :: b))) w :=
  add_run [c] b (by simp; omega) w
theorem digN_len_le {l : List Nat} (h : Lim l) : (digN (lval l)).length ≤ 10 * l.length + 1 := by
  rw [digN_len]
  split
  · omega
  · have := nd_limbs (n := lval l) (k := l.length) (lval_lt h); omega

set_option maxRecDepth 100000 in
set_option maxHeartbeats 1600000 in
theorem dText {w : World} {v : Value} {x : RatL} (h : RatV w v x) (hr : x.num.length ≤ 1048576) (hr2 : x.den.length ≤ 1048576) :
    Calls Try.prog 12 #[v] w fun e w' => e = .returned (.string (Str (textL x))) ∧ Below w.heap.size w w' := by
  obtain ⟨an, ad, cn, cd, rfl, h2, h3, h4, h5⟩ := h.ex
  have hb0 : Below w.heap.size w (w.alloc (.cells #[.bool x.neg, .slice an x.num.length cn, .slice ad x.den.length cd] 25)) := (Below.refl _ w).alloc (Nat.le_refl _) _
  have hbx := Box3.alloc w (.bool x.neg) (.slice an x.num.length cn) (.slice ad x.den.length cd) 25
  have HN := Lib.hid (h4.below hb0)
  have HDn := Lib.hid (h5.below hb0)
  have hln := digN_len_le h4.lim
  have hld := digN_len_le h5.lim
  obtain ⟨TX, hTX⟩ : ∃ TX, TX = textL x := ⟨_, rfl⟩
  rw [← hTX]
  have HT : Hid (TX = (if x.neg then [45] else []) ++ (digN (lval x.num) ++ (if x.den.length = 0 then [] else 47 :: digN (lval x.den)))) := by unfold Hid; rw [hTX]; rfl
  have HB := Lib.hid hb0
  have HBx := Lib.hid hbx
  clear h h4 h5 hb0 hbx hTX
  go_enter Try.func12, Try.ntmps12
  go_upto_region 1 with fail
  generalize w.alloc (.cells #[.bool x.neg, .slice an x.num.length cn, .slice ad x.den.length cd] 25) = W at *
  obtain ⟨x0, x1, x2, _, xlt⟩ := HBx.out
  go_wp2_with fail
  refine (dDigits cn h2 HN.out rfl hr).mono ?_
  rintro e w1 ⟨rfl, hb1⟩
  have HB1 := Lib.hid (HB.out.trans (hb1.mono HB.out.size))
  have HX1 := Lib.hid (HBx.out.below hb1)
  have HD1 := Lib.hid (dDigits cd h3 (HDn.out.below hb1) rfl hr2)
  clear x0 x1 x2 xlt hb1
  obtain ⟨x0, x1, x2, _, xlt⟩ := HX1.out
  generalize digN (lval x.num) = A at *
  generalize digN (lval x.den) = B at *
  have ha1 := fun (wv : World) => add_run' (P := Try.prog) 45 A (by omega) wv
  have ha2 := fun (wv : World) => add_run' (P := Try.prog) 47 B (by omega) wv
  have ha3 := fun (wv : World) => add_run (P := Try.prog) (45 :: A) (47 :: B) (by simp; omega) wv
  have ha4 := fun (wv : World) => add_run (P := Try.prog) A (47 :: B) (by simp; omega) wv
  cases hneg : x.neg with
  | false =>
    rw [hneg] at x0 HT
    have HNg := Lib.hid hneg
    clear hneg
    by_cases hd : x.den.length = 0
    · rw [if_pos hd, if_neg (by simp), List.nil_append, List.append_nil] at HT
      have hd2 : decide (0 < x.den.length) = false := decide_eq_false (by omega)
      go_wp2
      go_ret
      exact ⟨ret_str HT.out.symm, HB1.out⟩
    · rw [if_neg hd, if_neg (by simp), List.nil_append] at HT
      have hd2 : decide (0 < x.den.length) = true := decide_eq_true (by omega)
      go_wp2_with fail
      refine HD1.out.mono ?_
      rintro e w2 ⟨rfl, hb2⟩
      have HB2 := Lib.hid (HB1.out.trans (hb2.mono HB1.out.size))
      clear hb2
      go_wp2
      go_ret
      exact ⟨ret_str HT.out.symm, HB2.out⟩
  | true =>
    rw [hneg] at x0 HT
    have HNg := Lib.hid hneg
    clear hneg
    by_cases hd : x.den.length = 0
    · rw [if_pos hd, if_pos rfl, List.append_nil] at HT
      have hd2 : decide (0 < x.den.length) = false := decide_eq_false (by omega)
      go_wp2
      go_ret
      exact ⟨ret_str HT.out.symm, HB1.out⟩
    · rw [if_neg hd, if_pos rfl] at HT
      have hd2 : decide (0 < x.den.length) = true := decide_eq_true (by omega)
      go_wp2_with fail
      refine HD1.out.mono ?_
      rintro e w2 ⟨rfl, hb2⟩
      have HB2 := Lib.hid (HB1.out.trans (hb2.mono HB1.out.size))
      clear hb2
      go_wp2
      go_ret
      exact ⟨ret_str HT.out.symm, HB2.out⟩

end Go.Proofs.Ytfmhedfiklidhaa

/-
  The walk of the reference's Digits of layer 4: by contract.
-/
namespace Go.Proofs.Ytfmhedfiklidhaa
open Go.RowKit

/-- The last k digits of a number as a text. -/
def tailD (k N : Nat) : List UInt8 := ((padD k N).map dch).reverse
theorem tailD_succ (k N : Nat) : tailD (k + 1) N = dch (N / 10 ^ k % 10) :: tailD k N := by
  unfold tailD; rw [padD_succ, List.map_append, List.reverse_append]; rfl
theorem tailD_len (k N : Nat) : (tailD k N).length = k := by unfold tailD; simp [padD_len]
theorem tailD_all {N : Nat} (h : N ≠ 0) : tailD (nd N) N = digN N := (digN_nd h).symm
theorem digit_text {d : Nat} (h : d < 10) : (ByteArray.mk #[48, 49, 50, 51, 52, 53, 54, 55, 56, 57]).extract d (d + 1) = Str [dch d] := by
  rcases (by omega : d = 0 ∨ d = 1 ∨ d = 2 ∨ d = 3 ∨ d = 4 ∨ d = 5 ∨ d = 6 ∨ d = 7 ∨ d = 8 ∨ d = 9) with rfl | rfl | rfl | rfl | rfl | rfl | rfl | rfl | rfl | rfl <;> rfl

set_option maxRecDepth 100000 in
set_option maxHeartbeats 1600000 in
theorem r4Digits {w : World} {a : Option Addr} {N : Nat} (c : Nat) (hc : (limbs N).length ≤ c) (h : U32s w a (limbs N)) (hr : (limbs N).length ≤ 1048576) :
    Calls Try.prog 28 #[.slice a (limbs N).length c] w fun e w' => e = .returned (.string (Str (digN N))) ∧ Below w.heap.size w w' := by
  have HU := Lib.hid h
  have hnl : nd N ≤ 10485760 := by have := nd_limbs (n := N) (k := (limbs N).length) (limbs_len_lt N); omega
  have HOf : Hid (∀ wv, Calls Try.prog 31 #[.int .u64 10] wv (RetF wv 10)) := fun wv => r1Of 10 (by decide) wv
  clear h
  go_enter Try.func28, Try.ntmps28
  go_wp2
  go_loopw [0, 3] (fun n s wr => ∃ (j : Nat) (a' : Option Addr) (c' : Nat), j ≤ nd N ∧ n = .slice a' (limbs (N / 10 ^ j)).length c' ∧ s = .string (Str (tailD j N)) ∧ (limbs (N / 10 ^ j)).length ≤ c' ∧ Hid (U32s wr a' (limbs (N / 10 ^ j))) ∧ Hid (Below w.heap.size w wr)) (fun _ s _ => nd N - strLen s)
  case atStart => exact ⟨0, a, c, Nat.zero_le _, by rw [Nat.pow_zero, Nat.div_one], rfl, by rw [Nat.pow_zero, Nat.div_one]; exact hc, by unfold Hid; rw [Nat.pow_zero, Nat.div_one]; exact HU.out, Below.refl _ _⟩
  case round =>
    obtain ⟨j, a', c', hj, rfl, rfl, hc', HUj, HB⟩ := hrel
    have hlen : (limbs (N / 10 ^ j)).length ≤ 1048576 := Nat.le_trans (limbs_len_mono (Nat.div_le_self _ _)) hr
    have HTl := Lib.hid (tailD_len j N)
    by_cases hz : N / 10 ^ j = 0
    · have hnd : nd N ≤ j := nd_div.1 hz
      obtain rfl : j = nd N := by omega
      rw [hz, limbs_zero] at hc' ⊢
      clear hz hlen HUj
      by_cases hN : N = 0
      · have hT : tailD (nd N) N = [] := by rw [hN, nd_zero]; rfl
        have HD : Hid (digN N = [48]) := by unfold Hid; rw [hN]; rfl
        rw [hT]
        have e1 : (Str []).toList = [] := Str_toList []
        clear hT hN
        go_wp2
        go_ret
        exact ⟨ret_str (a := [48]) HD.out.symm, HB.out⟩
      · have HD := Lib.hid (tailD_all hN)
        have hne : tailD (nd N) N ≠ [] := by intro e; have := HTl.out; rw [e, nd_pos hN] at this; cases this
        have e1 : (Str (tailD (nd N) N)).toList.isEmpty = false := by rw [Str_toList]; simpa using hne
        go_wp2
        go_ret
        exact ⟨ret_str HD.out, HB.out⟩
    · have hnd : j < nd N := Nat.lt_of_not_le fun hle => hz (nd_div.2 hle)
      have hpos := limbs_pos_iff.2 (Nat.pos_of_ne_zero hz)
      have hds := pow_div_step N j
      have hts := tailD_succ j N
      have hd : N / 10 ^ j % 10 < 10 := Nat.mod_lt _ (by decide)
      have HDs := Lib.hid hds
      have HTs := Lib.hid hts
      have HTn := Lib.hid hd
      have hex := digit_text hd
      have hadd := fun (wv : World) => add_run (P := Try.prog) [dch (N / 10 ^ j % 10)] (tailD j N) (by rw [HTl.out]; simp; omega) wv
      have h10 : (limbs 10).length ≤ 2 := limbs_len64 (by decide)
      have hrl : (limbs (N / 10 ^ j % 10)).length ≤ 2 := limbs_len64 (by omega)
      have hif : (if (limbs (N / 10 ^ j % 10)).length ≤ 2 then ((N / 10 ^ j % 10 : Nat) : Int) else 0) = ((N / 10 ^ j % 10 : Nat) : Int) := if_pos hrl
      have hok : uintOK (N / 10 ^ j % 10) = true := decide_eq_true hrl
      have HIf := Lib.hid hif
      have HOk := Lib.hid hok
      clear hz hds hts hif hok
      generalize hM : N / 10 ^ j = M at *
      generalize hd' : M % 10 = d at *
      have HD' := Lib.hid hd'
      clear hM hd'
      go_wp2_with fail
      refine (HOf.out _).mono ?_
      rintro e w3 ⟨a3, c3, rfl, k1, k2, hb3, _⟩
      have HM := Lib.hid (r1DivMod c' c3 hc' k1 (HUj.out.below hb3) k2 (lval_limbs M) (lval_limbs 10) (by omega) (by omega) (by decide))
      have HB3 := Lib.hid (HB.out.trans (hb3.mono HB.out.size))
      clear k1 k2 hb3
      go_wp2_with fail
      refine HM.out.mono ?_
      rintro e w4 ⟨a4, c4, a5, c5, rfl, k1, k2, k3, k4, hb4⟩
      rw [HD'.out] at k2 k4 ⊢
      have HUi := Lib.hid (r1Uint c5 k2 k4 (lval_limbs d) (by omega))
      rw [HIf.out, HOk.out] at HUi
      have HB4 := Lib.hid (HB3.out.trans (hb4.mono HB3.out.size))
      have K1 := Lib.hid k1
      have K3 := Lib.hid k3
      clear k1 k2 k3 k4 hb4 HM
      go_wp2_with fail
      refine HUi.out.mono ?_
      rintro e w5 ⟨rfl, hb5⟩
      have HB5 := Lib.hid (HB4.out.trans (hb5.mono HB4.out.size))
      have K5 := Lib.hid (K3.out.below hb5)
      clear hb5 HUi K3
      go_wp2
      refine ⟨⟨j + 1, a4, c4, hnd, by rw [HDs.out], by rw [HTs.out], by rw [HDs.out]; exact K1.out, by unfold Hid; rw [HDs.out]; exact K5.out, HB5.out⟩, ?_⟩
      show nd N - (Str _).size < nd N - (Str _).size
      rw [Str_size, Str_size, List.length_cons, HTl.out]
      omega

theorem r4DigitsL {w : World} {a : Option Addr} {l : List Nat} {N : Nat} (c : Nat) (hc : l.length ≤ c) (h : U32s w a l) (hl : l = limbs N) (hr : l.length ≤ 1048576) :
    Calls Try.prog 28 #[.slice a l.length c] w fun e w' => e = .returned (.string (Str (digN N))) ∧ Below w.heap.size w w' := by
  subst hl; exact r4Digits c hc h hr

set_option maxRecDepth 100000 in
set_option maxHeartbeats 1600000 in
theorem r4Text {w : World} {v : Value} {x : RatL} (h : RatV w v x) (hcn : x.num = limbs (lval x.num)) (hcd : x.den = limbs (lval x.den)) (hr : x.num.length ≤ 1048576) (hr2 : x.den.length ≤ 1048576) :
    Calls Try.prog 13 #[v] w fun e w' => e = .returned (.string (Str (textL x))) ∧ Below w.heap.size w w' := by
  obtain ⟨an, ad, cn, cd, rfl, h2, h3, h4, h5⟩ := h.ex
  have hb0 : Below w.heap.size w (w.alloc (.cells #[.bool x.neg, .slice an x.num.length cn, .slice ad x.den.length cd] 25)) := (Below.refl _ w).alloc (Nat.le_refl _) _
  have hbx := Box3.alloc w (.bool x.neg) (.slice an x.num.length cn) (.slice ad x.den.length cd) 25
  have HN := Lib.hid (h4.below hb0)
  have HDn := Lib.hid (h5.below hb0)
  have hln := digN_len_le h4.lim
  have hld := digN_len_le h5.lim
  obtain ⟨TX, hTX⟩ : ∃ TX, TX = textL x := ⟨_, rfl⟩
  rw [← hTX]
  have HT : Hid (TX = (if x.neg then [45] else []) ++ (digN (lval x.num) ++ (if x.den.length = 0 then [] else 47 :: digN (lval x.den)))) := by unfold Hid; rw [hTX]; rfl
  have HB := Lib.hid hb0
  have HCn := Lib.hid hcn
  have HCd := Lib.hid hcd
  have HBx := Lib.hid hbx
  clear h h4 h5 hb0 hbx hTX hcn hcd
  go_enter Try.func13, Try.ntmps13
  go_upto_region 1 with fail
  generalize w.alloc (.cells #[.bool x.neg, .slice an x.num.length cn, .slice ad x.den.length cd] 25) = W at *
  obtain ⟨x0, x1, x2, _, xlt⟩ := HBx.out
  go_wp2_with fail
  refine (r4DigitsL cn h2 HN.out HCn.out hr).mono ?_
  rintro e w1 ⟨rfl, hb1⟩
  have HB1 := Lib.hid (HB.out.trans (hb1.mono HB.out.size))
  have HX1 := Lib.hid (HBx.out.below hb1)
  have HD1 := Lib.hid (r4DigitsL cd h3 (HDn.out.below hb1) HCd.out hr2)
  clear x0 x1 x2 xlt hb1
  obtain ⟨x0, x1, x2, _, xlt⟩ := HX1.out
  generalize digN (lval x.num) = A at *
  generalize digN (lval x.den) = B at *
  have ha1 := fun (wv : World) => add_run' (P := Try.prog) 45 A (by omega) wv
  have ha2 := fun (wv : World) => add_run' (P := Try.prog) 47 B (by omega) wv
  have ha3 := fun (wv : World) => add_run (P := Try.prog) (45 :: A) (47 :: B) (by simp; omega) wv
  have ha4 := fun (wv : World) => add_run (P := Try.prog) A (47 :: B) (by simp; omega) wv
  cases hneg : x.neg with
  | false =>
    rw [hneg] at x0 HT
    have HNg := Lib.hid hneg
    clear hneg
    by_cases hd : x.den.length = 0
    · rw [if_pos hd, if_neg (by simp), List.nil_append, List.append_nil] at HT
      have hd2 : decide (0 < x.den.length) = false := decide_eq_false (by omega)
      go_wp2
      go_ret
      exact ⟨ret_str HT.out.symm, HB1.out⟩
    · rw [if_neg hd, if_neg (by simp), List.nil_append] at HT
      have hd2 : decide (0 < x.den.length) = true := decide_eq_true (by omega)
      go_wp2_with fail
      refine HD1.out.mono ?_
      rintro e w2 ⟨rfl, hb2⟩
      have HB2 := Lib.hid (HB1.out.trans (hb2.mono HB1.out.size))
      clear hb2
      go_wp2
      go_ret
      exact ⟨ret_str HT.out.symm, HB2.out⟩
  | true =>
    rw [hneg] at x0 HT
    have HNg := Lib.hid hneg
    clear hneg
    by_cases hd : x.den.length = 0
    · rw [if_pos hd, if_pos rfl, List.append_nil] at HT
      have hd2 : decide (0 < x.den.length) = false := decide_eq_false (by omega)
      go_wp2
      go_ret
      exact ⟨ret_str HT.out.symm, HB1.out⟩
    · rw [if_neg hd, if_pos rfl] at HT
      have hd2 : decide (0 < x.den.length) = true := decide_eq_true (by omega)
      go_wp2_with fail
      refine HD1.out.mono ?_
      rintro e w2 ⟨rfl, hb2⟩
      have HB2 := Lib.hid (HB1.out.trans (hb2.mono HB1.out.size))
      clear hb2
      go_wp2
      go_ret
      exact ⟨ret_str HT.out.symm, HB2.out⟩

end Go.Proofs.Ytfmhedfiklidhaa

/-
  The walks of the reference's Power and digits of layer 4: by contract.
-/
namespace Go.Proofs.Ytfmhedfiklidhaa
open Go.RowKit

theorem index_run {P : Program} {T : TypeId} (hT : P.underlying T = some .string) (L : List UInt8) (i : Nat) (h : i < L.length) (w : World) : (Instr.index T (.string (Str L)) (.int .i64 (i : Int))).run P w = .ok (.int .u8 ((L.getD i 0).toNat : Int)) w := by
  rw [run_index_string (P := P) w T (Str L) .i64 (i : Int) hT, dif_pos ⟨by omega, by rw [Str_size]; omega⟩]
  congr 4
  show (L.toArray)[i]'_ = _
  simp [List.getD_eq_getElem?_getD, h]
  try rfl

theorem Str_getE (L : List UInt8) (i : Nat) (h : i < (Str L).size) : (Str L)[i]'h = L.getD i 0 := by
  have h' : i < L.length := by rw [← Str_size]; exact h
  show (L.toArray)[i]'_ = _
  simp [List.getD_eq_getElem?_getD, h']
  rfl
set_option maxHeartbeats 1600000 in
theorem r4Power {w : World} (n : Nat) (hn : n ≤ 100000) : Calls Try.prog 32 #[.int .i64 (n : Int)] w (RetN w (10 ^ n)) := by
  have H1 : Hid (∀ wv, Calls Try.prog 31 #[.int .u64 1] wv (RetF wv 1)) := fun wv => r1Of 1 (by decide) wv
  have H10 : Hid (∀ wv, Calls Try.prog 31 #[.int .u64 10] wv (RetF wv 10)) := fun wv => r1Of 10 (by decide) wv
  go_enter Try.func32, Try.ntmps32
  go_wp2_with fail
  refine (H1.out _).mono ?_
  rintro e w1 ⟨a1, c1, rfl, k1, k2, hb1, _⟩
  have HB1 := Lib.hid hb1
  have HU1 := Lib.hid k2
  clear hb1 k2 H1
  go_wp2
  go_loopw [3, 4] (fun p i wr => ∃ (k : Nat) (a : Option Addr) (c : Nat), k ≤ n ∧ i = .int .i64 (k : Int) ∧ p = .slice a (limbs (10 ^ k)).length c ∧ (limbs (10 ^ k)).length ≤ c ∧ Hid (U32s wr a (limbs (10 ^ k))) ∧ Hid (Below w.heap.size w wr)) (fun _ i _ => n - (intOf i).toNat)
  case atStart => exact ⟨0, a1, c1, Nat.zero_le _, rfl, rfl, k1, HU1.out, HB1.out⟩
  case round =>
    clear k1
    obtain ⟨k, a, c, hk, rfl, rfl, hc, HU, HB⟩ := hrel
    have hlen : (limbs (10 ^ k)).length ≤ 100001 := by
      refine Nat.le_trans (limbs_len_dec (n := k + 1) ?_) (by omega)
      exact Nat.pow_lt_pow_right (by decide) (by omega)
    have h10 : (limbs 10).length ≤ 2 := limbs_len64 (by decide)
    by_cases hlt : k < n
    · have HP : Hid (10 ^ (k + 1) = 10 ^ k * 10) := Nat.pow_succ _ _
      generalize 10 ^ k = P at *
      go_wp2_with fail
      refine (H10.out _).mono ?_
      rintro e w3 ⟨a3, c3, rfl, k1, k2, hb3, _⟩
      have HM := Lib.hid (r1Mul c c3 (HU.out.below hb3) k2 (lval_limbs P) (lval_limbs 10) (by omega))
      have HB3 := Lib.hid (HB.out.trans (hb3.mono HB.out.size))
      clear k1 k2 hb3
      go_wp2_with fail
      refine HM.out.mono ?_
      rintro e w4 ⟨a4, c4, rfl, k1, k2, hb4, _⟩
      have HB4 := Lib.hid (HB3.out.trans (hb4.mono HB3.out.size))
      have K1 := Lib.hid k1
      have K2 := Lib.hid k2
      clear k1 k2 hb4 HM
      go_wp2
      go_roundw
      case rel => exact ⟨k + 1, a4, c4, hlt, by go_num, by rw [HP.out], by rw [HP.out]; exact K1.out, by unfold Hid; rw [HP.out]; exact K2.out, HB4.out⟩
      case measure => simp [intOf]; omega
    · obtain rfl : k = n := by omega
      go_wp2
      go_ret
      exact ⟨a, c, rfl, hc, HU.out, HB.out⟩

/-- The digits ahead. -/
def runD (M : List UInt8) : List UInt8 := M.takeWhile isD
theorem runD_all (M : List UInt8) : ∀ c ∈ runD M, isD c = true := by
  intro c hc
  unfold runD at hc
  induction M with
  | nil => simp at hc
  | cons d M ih =>
    rw [List.takeWhile_cons] at hc
    by_cases hd : isD d = true
    · rw [if_pos hd] at hc
      rcases List.mem_cons.1 hc with rfl | h
      · exact hd
      · exact ih h
    · rw [if_neg hd] at hc; simp at hc
theorem runD_split (M : List UInt8) : ∃ R, M = runD M ++ R ∧ (R = [] ∨ ∃ c T, R = c :: T ∧ isD c = false) := by
  unfold runD
  induction M with
  | nil => exact ⟨[], rfl, .inl rfl⟩
  | cons d M ih =>
    by_cases hd : isD d = true
    · obtain ⟨R, h1, h2⟩ := ih
      refine ⟨R, ?_, h2⟩
      rw [List.takeWhile_cons, if_pos hd, List.cons_append, ← h1]
    · refine ⟨d :: M, ?_, .inr ⟨d, M, rfl, by simpa using hd⟩⟩
      rw [List.takeWhile_cons, if_neg hd, List.nil_append]
theorem runD_at {L : List UInt8} {a k : Nat} (h : k < (runD (L.drop a)).length) : a + k < L.length ∧ L.getD (a + k) 0 = (runD (L.drop a)).getD k 0 := by
  obtain ⟨R, h1, _⟩ := runD_split (L.drop a)
  have hl : (L.drop a).length = (runD (L.drop a)).length + R.length := by rw [← List.length_append, ← h1]
  rw [List.length_drop] at hl
  refine ⟨by omega, ?_⟩
  have e : L.getD (a + k) 0 = (L.drop a).getD k 0 := by simp [List.getD_eq_getElem?_getD, List.getElem?_drop]
  rw [e]
  conv => lhs; rw [h1]
  simp [List.getD_eq_getElem?_getD, List.getElem?_append_left h]
theorem runD_end {L : List UInt8} {a : Nat} (ha : a ≤ L.length) : a + (runD (L.drop a)).length ≤ L.length ∧ (a + (runD (L.drop a)).length < L.length → isD (L.getD (a + (runD (L.drop a)).length) 0) = false) := by
  obtain ⟨R, h1, h2⟩ := runD_split (L.drop a)
  have hl : (L.drop a).length = (runD (L.drop a)).length + R.length := by rw [← List.length_append, ← h1]
  rw [List.length_drop] at hl
  refine ⟨by omega, fun hlt => ?_⟩
  generalize runD (L.drop a) = Q at *
  have e : L.getD (a + Q.length) 0 = (L.drop a).getD Q.length 0 := by simp [List.getD_eq_getElem?_getD, List.getElem?_drop]
  rw [e]
  rcases h2 with rfl | ⟨c, T, rfl, hc⟩
  · simp at hl; omega
  · rw [h1]
    simp [List.getD_eq_getElem?_getD, hc]

/-- What the reference's digits hands back. -/
def ScanR (w : World) (L : List UInt8) (at_ u : Nat) (e : Ending) (w' : World) : Prop :=
  (4000 < u + (runD (L.drop at_)).length ∧ Below w.heap.size w w' ∧ e = .returned (.tuple #[.slice none 0 0, .int .i64 (-1 - ((at_ + (4000 - u) : Nat) : Int)), .int .i64 4000])) ∨
  (u + (runD (L.drop at_)).length ≤ 4000 ∧ Below w.heap.size w w' ∧ ∃ a c, e = .returned (.tuple #[.slice a (limbs (valD (runD (L.drop at_)))).length c, .int .i64 ((at_ + (runD (L.drop at_)).length : Nat) : Int), .int .i64 ((u + (runD (L.drop at_)).length : Nat) : Int)]) ∧
    (limbs (valD (runD (L.drop at_)))).length ≤ c ∧ U32s w' a (limbs (valD (runD (L.drop at_)))))

set_option maxRecDepth 100000 in
set_option maxHeartbeats 3200000 in
theorem r4digits {w : World} {L : List UInt8} {at_ u : Nat} (ha : at_ ≤ L.length) (hL : L.length ≤ 100000) (hu : u ≤ 4000) :
    Calls Try.prog 30 #[.string (Str L), .int .i64 (at_ : Int), .int .i64 (u : Int)] w (ScanR w L at_ u) := by
  have H10 : Hid (∀ wv, Calls Try.prog 31 #[.int .u64 10] wv (RetF wv 10)) := fun wv => r1Of 10 (by decide) wv
  have hend := runD_end ha
  have HEnd := Lib.hid hend.2
  have hend1 := hend.1
  have HAt := Lib.hid (fun k (h : k < (runD (L.drop at_)).length) => runD_at h)
  have HAll := Lib.hid (runD_all (L.drop at_))
  have hsz := Str_size L
  have HSc : Hid (∀ e w', ScanR w L at_ u e w' = ((4000 < u + (runD (L.drop at_)).length ∧ Below w.heap.size w w' ∧ e = .returned (.tuple #[.slice none 0 0, .int .i64 (-1 - ((at_ + (4000 - u) : Nat) : Int)), .int .i64 4000])) ∨
    (u + (runD (L.drop at_)).length ≤ 4000 ∧ Below w.heap.size w w' ∧ ∃ a c, e = .returned (.tuple #[.slice a (limbs (valD (runD (L.drop at_)))).length c, .int .i64 ((at_ + (runD (L.drop at_)).length : Nat) : Int), .int .i64 ((u + (runD (L.drop at_)).length : Nat) : Int)]) ∧
      (limbs (valD (runD (L.drop at_)))).length ≤ c ∧ U32s w' a (limbs (valD (runD (L.drop at_))))))) := fun _ _ => rfl
  generalize runD (L.drop at_) = R at *
  clear hend
  go_enter Try.func30, Try.ntmps30
  go_wp2
  go_loopw [1, 2, 9] (fun x y n wr => ∃ (k p q : Nat) (a : Option Addr) (c : Nat), k ≤ R.length ∧ q ≤ 4000 ∧ Hid (p = at_ + k ∧ q = u + k) ∧ x = .int .i64 (p : Int) ∧ y = .int .i64 (q : Int) ∧ n = .slice a (limbs (valD (R.take k))).length c ∧ (limbs (valD (R.take k))).length ≤ c ∧ Hid (U32s wr a (limbs (valD (R.take k)))) ∧ Hid (Below w.heap.size w wr)) (fun x _ _ _ => L.length - (intOf x).toNat)
  case atStart => exact ⟨0, at_, u, _, 0, Nat.zero_le _, hu, ⟨rfl, rfl⟩, rfl, rfl, by rw [List.take_zero, valD_nil, limbs_zero]; rfl, by rw [List.take_zero, valD_nil, limbs_zero]; exact Nat.le_refl _, by unfold Hid; rw [List.take_zero, valD_nil, limbs_zero]; exact U32s.nil _ _, (Below.refl _ _).alloc (Nat.le_refl _) _⟩
  case round =>
    obtain ⟨k, p, q, a, c, hk, hq, HPQ, rfl, rfl, rfl, hc, HU, HB⟩ := hrel
    have hp1 := HPQ.out.1
    have hq1 := HPQ.out.2
    by_cases hlt : k < R.length
    · obtain ⟨hpl, hcd⟩ := HAt.out k hlt
      rw [← hp1] at hpl hcd
      have hge : R[k]? = some (R.getD k 0) := by rw [List.getD_eq_getElem?_getD, List.getElem?_eq_getElem hlt]; rfl
      have hdc := HAll.out _ (List.mem_of_getElem? hge)
      have hvs : valD (R.take (k + 1)) = valD (R.take k) * 10 + valC (R.getD k 0) := by rw [take_succ_atD hge, valD_snoc, Nat.mul_comm]
      have hidx := fun (wv : World) => index_run (P := Try.prog) Try.underlying9 L p hpl wv
      rw [hcd] at hidx
      have hVb := valD_lt (R.take k) fun c hc => HAll.out c (List.mem_of_mem_take hc)
      rw [List.length_take, Nat.min_eq_left hk] at hVb
      have hVl := limbs_len_dec hVb
      have HVs := Lib.hid hvs
      generalize R.getD k 0 = cb at *
      unfold isD at hdc
      rw [decide_eq_true_eq] at hdc
      obtain ⟨hc1, hc2⟩ := hdc
      unfold valC at HVs
      have g1 : decide (p < L.length) = true := decide_eq_true hpl
      have g2 : decide ((48 : Int) ≤ (cb.toNat : Int)) = true := decide_eq_true (by omega)
      have g3 : decide ((cb.toNat : Int) ≤ 57) = true := decide_eq_true (by omega)
      by_cases h4 : q = 4000
      · have g4 : ((q : Int) == 4000) = true := by rw [beq_iff_eq]; omega
        have HE : Hid (∀ w', Below w.heap.size w w' → ScanR w L at_ u (.returned (.tuple #[.slice none 0 0, .int .i64 (-1 - (p : Int)), .int .i64 (q : Int)])) w') := fun w' hb => by
          rw [HSc.out]
          exact .inl ⟨by omega, hb, by rw [show at_ + (4000 - u) = p by omega, h4]; rfl⟩
        have HBx := HB
        clear hvs hge hcd hp1 hq1 h4 hVb
        go_wp2
        go_ret3
        exact HE.out _ HBx.out
      · have g4 : ((q : Int) == 4000) = false := by rw [beq_eq_false_iff_ne]; omega
        clear hvs hge hcd hp1 hq1
        generalize valD (R.take k) = V at *
        have h10 : (limbs 10).length ≤ 2 := limbs_len64 (by decide)
        have hw8 : IntKind.u8.wrap ((cb.toNat : Int) - 48) = (cb.toNat : Int) - 48 := by rw [IntKind.wrap_u8]; omega
        have hw64 : IntKind.u64.wrap ((cb.toNat : Int) - 48) = (cb.toNat : Int) - 48 := by rw [IntKind.wrap_u64]; omega
        have HOc : Hid (∀ wv, Calls Try.prog 31 #[.int .u64 ((cb.toNat : Int) - 48)] wv (RetF wv (cb.toNat - 48))) := fun wv => by
          rw [show ((cb.toNat : Int) - 48) = ((cb.toNat - 48 : Nat) : Int) by omega]; exact r1Of _ (by omega) wv
        have hcl : (limbs (cb.toNat - 48)).length ≤ 2 := limbs_len64 (by omega)
        have hVl10 : (limbs (V * 10)).length ≤ 100001 := by
          refine Nat.le_trans (limbs_len_dec (n := k + 1) ?_) (by omega)
          rw [Nat.pow_succ]; omega
        have hpb : p + 1 ≤ 100000 := by omega
        have HPQ2 : Hid (p + 1 = at_ + (k + 1) ∧ q + 1 = u + (k + 1)) := by unfold Hid; have := HPQ.out; omega
        have hrl : R.length ≤ 100000 := by omega
        have HVb := Lib.hid hVb
        clear hVb HSc HAll HAt HEnd
        go_wp2
        have xbl : Below wr.heap.size wr wr.drew := (Below.refl _ _).drew
        have tok1 : True := trivial
        go_region_held3 (fun _ => True) (trivial)
          (first
            | (go_at_call 31; have _t := tok1; clear tok1; have hS := ‹Below wr.heap.size wr _›; refine (H10.out _).mono ?_; rintro e w3 ⟨a3, c3, rfl, k1, k2, hb3, _⟩; have hS3 := hS.trans (hb3.mono hS.size); have K2 := Lib.hid k2; clear k2)
            | (go_at_call 34; have hS := ‹Below wr.heap.size wr _›; refine (r1Mul c c3 (HU.out.below hS) K2.out (lval_limbs V) (lval_limbs 10) (by omega)).mono ?_; rintro e w4 ⟨a4, c4, rfl, k3, k4, hb4, _⟩; have hS4 := hS.trans (hb4.mono hS.size); have K4 := Lib.hid k4; clear k4)
            | (go_at_call 31; have hS := ‹Below wr.heap.size wr _›; refine (HOc.out _).mono ?_; rintro e w5 ⟨a5, c5, rfl, k5, k6, hb5, _⟩; have hS5 := hS.trans (hb5.mono hS.size); have K6 := Lib.hid k6; have K4' := Lib.hid (K4.out.below hb5); clear k6)
            | (go_at_call 33; have hS := ‹Below wr.heap.size wr _›; refine (r1Add c4 c5 K4'.out K6.out (lval_limbs (V * 10)) (lval_limbs (cb.toNat - 48)) (by omega) (by omega)).mono ?_; rintro e w6 ⟨a6, c6, rfl, k7, k8, hb6, _⟩; have hS6 := hS.trans (hb6.mono hS.size); have K8 := Lib.hid k8; clear k8))
        all_goals
          have HBf := Lib.hid (HB.out.trans (hS6.mono HB.out.size))
          have K7 := Lib.hid k7
          clear k1 k3 k5 k7 hS3 hS4 hS5 hS6 xbl
          go_wp2
          refine ⟨⟨k + 1, p + 1, q + 1, a6, c6, hlt, by omega, HPQ2.out, by go_num, by go_num, by rw [HVs.out], by rw [HVs.out]; exact K7.out, by unfold Hid; rw [HVs.out]; exact K8.out, HBf.out⟩, by simp [intOf]; omega⟩
    · obtain rfl : k = R.length := by omega
      rw [List.take_length] at HU hc ⊢
      have HE : Hid (∀ w', Below w.heap.size w w' → U32s w' a (limbs (valD R)) → ScanR w L at_ u (.returned (.tuple #[.slice a (limbs (valD R)).length c, .int .i64 (p : Int), .int .i64 (q : Int)])) w') := fun w' hb hu' => by
        rw [HSc.out, ← hp1, ← hq1]
        exact .inr ⟨by omega, hb, a, c, rfl, hc, hu'⟩
      by_cases hpl : p < L.length
      · have hnd := HEnd.out (by omega)
        rw [← hp1] at hnd
        have hidx := fun (wv : World) => index_run (P := Try.prog) Try.underlying9 L p hpl wv
        generalize L.getD p 0 = cb at *
        unfold isD at hnd
        rw [decide_eq_false_iff_not] at hnd
        have g1 : decide (p < L.length) = true := decide_eq_true hpl
        by_cases h48 : 48 ≤ cb.toNat
        · have g2 : decide ((48 : Int) ≤ (cb.toNat : Int)) = true := decide_eq_true (by omega)
          have g3 : decide ((cb.toNat : Int) ≤ 57) = false := decide_eq_false (by omega)
          clear hnd hp1 hq1 hlt HAt HAll HEnd HSc
          go_wp2
          go_ret3
          exact HE.out _ HB.out HU.out
        · have g2 : decide ((48 : Int) ≤ (cb.toNat : Int)) = false := decide_eq_false (by omega)
          clear hnd hp1 hq1 hlt HAt HAll HEnd HSc
          go_wp2
          go_ret3
          exact HE.out _ HB.out HU.out
      · have g1 : decide (p < L.length) = false := decide_eq_false hpl
        clear hp1 hq1 hlt HAt HAll HEnd HSc
        go_wp2
        go_ret3
        exact HE.out _ HB.out HU.out

theorem r4digitsR {w : World} {L : List UInt8} {at_ u : Nat} (ha : at_ ≤ L.length) (hL : L.length ≤ 100000) (hu : u ≤ 4000) {R : List UInt8} (hR : runD (L.drop at_) = R) :
    Calls Try.prog 30 #[.string (Str L), .int .i64 (at_ : Int), .int .i64 (u : Int)] w fun e w' =>
      (4000 < u + R.length ∧ Below w.heap.size w w' ∧ ∃ P : Nat, P = at_ + (4000 - u) ∧ e = .returned (.tuple #[.slice none 0 0, .int .i64 (-1 - (P : Int)), .int .i64 4000])) ∨
      (u + R.length ≤ 4000 ∧ Below w.heap.size w w' ∧ ∃ (a : Option Addr) (c E U : Nat), E = at_ + R.length ∧ U = u + R.length ∧ e = .returned (.tuple #[.slice a (limbs (valD R)).length c, .int .i64 (E : Int), .int .i64 (U : Int)]) ∧ (limbs (valD R)).length ≤ c ∧ U32s w' a (limbs (valD R))) := by
  subst hR
  refine (r4digits ha hL hu).mono ?_
  intro e w' h
  rcases h with ⟨h1, h2, h3⟩ | ⟨h1, h2, a, c, h3, h4, h5⟩
  · exact .inl ⟨h1, h2, _, rfl, h3⟩
  · exact .inr ⟨h1, h2, a, c, _, _, rfl, rfl, h3, h4, h5⟩

end Go.Proofs.Ytfmhedfiklidhaa

/-
  What Parse of layer 4 says of a text; the walk of the reference's Parse: by contract.
-/
namespace Go.Proofs.Ytfmhedfiklidhaa
open Go.RowKit

def nilR : RatL := ⟨false, [], []⟩
/-- What is left to say behind the digits: an end g, a numerator, a denominator, and where a 0 would be named (z, if not negative). -/
def tailP (L : List UInt8) (neg : Bool) (g : Nat) (z : Int) (N D : Nat) : RatL × Nat × Int :=
  if g < L.length then (nilR, g, 4) else if 0 ≤ z then (nilR, z.toNat, 3) else (ratL (mkRat (sgn neg N) D), 0, 0)
/-- Behind a sign and the digits R up to e. -/
def restP (L : List UInt8) (neg : Bool) (e : Nat) (R : List UInt8) : RatL × Nat × Int :=
  if e < L.length ∧ (L.getD e 0 = 47 ∨ L.getD e 0 = 46) then
    if 4000 < R.length + (runD (L.drop (e + 1))).length then (nilR, e + 1 + (4000 - R.length), 8)
    else if (runD (L.drop (e + 1))).length = 0 then (nilR, e + 1, 4)
    else if L.getD e 0 = 47 then tailP L neg (e + 1 + (runD (L.drop (e + 1))).length) (if valD (runD (L.drop (e + 1))) = 0 then ((e + 1 : Nat) : Int) else -1) (valD R) (valD (runD (L.drop (e + 1))))
    else tailP L neg (e + 1 + (runD (L.drop (e + 1))).length) (-1) (valD R * 10 ^ (runD (L.drop (e + 1))).length + valD (runD (L.drop (e + 1)))) (10 ^ (runD (L.drop (e + 1))).length)
  else tailP L neg e (-1) (valD R) 1
def negP (L : List UInt8) : Bool := decide (0 < L.length) && (L.getD 0 0 == 45)
def fromP (L : List UInt8) : Nat := if negP L then 1 else 0
/-- The value of a text, or the first error and its offset. -/
def parseL (L : List UInt8) : RatL × Nat × Int :=
  if 4000 < (runD (L.drop (fromP L))).length then (nilR, fromP L + 4000, 8)
  else if (runD (L.drop (fromP L))).length = 0 then (nilR, fromP L, 4)
  else restP L (negP L) (fromP L + (runD (L.drop (fromP L))).length) (runD (L.drop (fromP L)))
def RetP (w : World) (r : RatL × Nat × Int) (e : Ending) (w' : World) : Prop := ∃ v, e = .returned (.tuple #[v, .int .i64 (r.2.1 : Int), .int .i64 r.2.2]) ∧ RatV w' v r.1 ∧ Below w.heap.size w w'

/-- A rational's place, still nil. -/
structure Nil3 (w W : World) (g : Nat) : Prop where
  c : Box3 W g (.bool false) (.slice none 0 0) (.slice none 0 0)
  nc : NoInt W g
  bl : Below g w W
theorem Nil3.mk' (w : World) (T : Nat) : Nil3 w (w.alloc (.cells #[.bool false, .slice none 0 0, .slice none 0 0] T)) w.heap.size :=
  ⟨Box3.alloc _ _ _ _ _, NoInt.alloc w #[.bool false, .slice none 0 0, .slice none 0 0] T (by simp), (Below.refl _ _).alloc (Nat.le_refl _) _⟩
theorem Nil3.below {w W W' : World} {g : Nat} (h : Nil3 w W g) (hb : Below W.heap.size W W') : Nil3 w W' g :=
  ⟨h.c.below hb, h.nc.below hb h.c.lt, h.bl.trans (hb.mono (Nat.le_of_lt h.c.lt))⟩
theorem nilV (w : World) : RatV w (.agg #[.bool false, .slice none 0 0, .slice none 0 0]) nilR := ⟨none, none, 0, 0, rfl, Nat.le_refl _, Nat.le_refl _, U32s.nil _ _, U32s.nil _ _⟩

theorem Box3.store {w : World} {g : Nat} {p q r : Value} (h : Box3 w g p q r) (p' q' r' : Value) : Box3 (((w.setCell ⟨g, 0, none⟩ p').setCell ⟨g, 1, none⟩ q').setCell ⟨g, 2, none⟩ r') g p' q' r' := by
  have n01 : (⟨g, 1, none⟩ : Addr) ≠ ⟨g, 0, none⟩ := by intro e; cases e
  have n02 : (⟨g, 2, none⟩ : Addr) ≠ ⟨g, 0, none⟩ := by intro e; cases e
  have n12 : (⟨g, 2, none⟩ : Addr) ≠ ⟨g, 1, none⟩ := by intro e; cases e
  refine ⟨?_, ?_, ?_, fun o => by simp [World.frozen?_setCell, h.free o], by simpa using h.lt⟩
  · rw [World.cell?_setCell_other _ _ _ _ n02, World.cell?_setCell_other _ _ _ _ n01, World.cell?_setCell_same _ _ _ h.c0]
  · rw [World.cell?_setCell_other _ _ _ _ n12, World.cell?_setCell_same _ _ _ ((World.cell?_setCell_other _ _ _ _ n01.symm).trans h.c1)]
  · rw [World.cell?_setCell_same _ _ _ ((World.cell?_setCell_other _ _ _ _ n12.symm).trans ((World.cell?_setCell_other _ _ _ _ n02.symm).trans h.c2))]
/-- A rational stored in its place, and a box of it behind. -/
theorem Nil3.done {w W : World} {g : Nat} (h : Nil3 w W g) {x : RatL} {bn bd : Option Addr} {m1 m2 : Nat} (h1 : x.num.length ≤ m1) (h2 : x.den.length ≤ m2) (k5 : U32s W bn x.num) (k6 : U32s W bd x.den) (o : Obj) :
    Box3 ((((W.setCell ⟨g, 0, none⟩ (.bool x.neg)).setCell ⟨g, 1, none⟩ (.slice bn x.num.length m1)).setCell ⟨g, 2, none⟩ (.slice bd x.den.length m2)).alloc o) g (.bool x.neg) (.slice bn x.num.length m1) (.slice bd x.den.length m2) ∧
    RatV ((((W.setCell ⟨g, 0, none⟩ (.bool x.neg)).setCell ⟨g, 1, none⟩ (.slice bn x.num.length m1)).setCell ⟨g, 2, none⟩ (.slice bd x.den.length m2)).alloc o) (.agg #[.bool x.neg, .slice bn x.num.length m1, .slice bd x.den.length m2]) x ∧
    Below g w ((((W.setCell ⟨g, 0, none⟩ (.bool x.neg)).setCell ⟨g, 1, none⟩ (.slice bn x.num.length m1)).setCell ⟨g, 2, none⟩ (.slice bd x.den.length m2)).alloc o) := by
  have hb := below_store3 h.bl (Nat.le_refl _) (.bool x.neg) (.slice bn x.num.length m1) (.slice bd x.den.length m2)
  have hs := h.c.store (.bool x.neg) (.slice bn x.num.length m1) (.slice bd x.den.length m2)
  have hr := RatV.store h.nc h1 h2 k5 k6
  have hal := fun (Y : World) => (Below.refl Y.heap.size Y).alloc (Nat.le_refl _) o
  exact ⟨hs.below (hal _), hr.below (hal _), hb.trans ((hal _).mono (Nat.le_of_lt hs.lt))⟩
/-- Where the ways of Parse meet again. -/
structure CutP (w wx : World) (L : List UInt8) (neg : Bool) (s7 s8 s10 s11 : Value) : Prop where
  ex : ∃ (N D g : Nat) (z : Int) (a : Option Addr) (c : Nat) (b : Option Addr) (d : Nat), s7 = .slice a (limbs N).length c ∧ s8 = .int .i64 (g : Int) ∧ s10 = .slice b (limbs D).length d ∧ s11 = .int .i64 z ∧ (limbs N).length ≤ c ∧ (limbs D).length ≤ d ∧ U32s wx a (limbs N) ∧ U32s wx b (limbs D) ∧
    Nil3 w wx w.heap.size ∧ parseL L = tailP L neg g z N D ∧ g ≤ 200000 ∧ (z = -1 ∧ 0 < D ∨ 0 ≤ z ∧ z ≤ 200000) ∧ (limbs N).length ≤ 200000 ∧ (limbs D).length ≤ 200000

set_option maxRecDepth 100000 in
set_option maxHeartbeats 3200000 in
theorem r4Parse {w : World} {L : List UInt8} (hL : L.length ≤ 100000) :
    Calls Try.prog 15 #[.string (Str L)] w (RetP w (parseL L)) := by
  have hsz := Str_size L
  obtain ⟨neg, hneg⟩ : ∃ neg, neg = negP L := ⟨_, rfl⟩
  obtain ⟨s, hs⟩ : ∃ s, s = fromP L := ⟨_, rfl⟩
  have HNeg := Lib.hid hneg
  have HS := Lib.hid hs
  have HS2 : Hid (s = if neg then 1 else 0) := by unfold Hid; rw [hs, hneg]; rfl
  clear hneg hs
  go_enter Try.func15, Try.ntmps15
  go_upto_region 2 with fail
  have hF := Nil3.mk' w 25
  generalize w.alloc (.cells #[.bool false, .slice none 0 0, .slice none 0 0] 25) = W at *
  have HF := Lib.hid hF
  clear hF
  go_cut [6] (fun s6 wx => s6 = .bool neg ∧ wx = W)
  case first =>
    by_cases h0 : 0 < L.length
    · have g1 : decide (0 < L.length) = true := decide_eq_true h0
      have hidx := fun (h : 0 < (Str L).size) => Str_getE L 0 h
      have HN : Hid (neg = (L.getD 0 0 == 45)) := by unfold Hid; rw [HNeg.out]; unfold negP; rw [g1, Bool.true_and]
      generalize L.getD 0 0 = cb at *
      by_cases hc : cb = 45
      · subst hc
        go_wp2
        go_meet
        exact ⟨by rw [HN.out]; rfl, rfl⟩
      · have hcn : ((cb.toNat : Int) == 45) = false := by
          rw [beq_eq_false_iff_ne]
          intro e
          exact hc (UInt8.toNat_inj.1 (by show cb.toNat = 45; omega))
        have HB : Hid ((cb == 45) = false) := by unfold Hid; rw [beq_eq_false_iff_ne]; exact hc
        clear hc
        go_wp2
        go_meet
        exact ⟨by rw [HN.out, HB.out], rfl⟩
    · have g1 : decide (0 < L.length) = false := decide_eq_false h0
      have HN : Hid (neg = false) := by unfold Hid; rw [HNeg.out]; unfold negP; rw [g1, Bool.false_and]
      go_wp2
      go_meet
      exact ⟨by rw [HN.out], rfl⟩
  case rest =>
    obtain ⟨rfl, rfl⟩ := hcut
    go_upto_if 26 with fail
    go_cut [5] (fun s5 wx => s5 = .int .i64 (s : Int) ∧ wx = wc)
    case first =>
      go_wp2
      · have hq := ‹neg = true›
        have HS3 : Hid (s = 1) := by unfold Hid; rw [HS2.out, hq]; rfl
        clear hq
        go_meet
        exact ⟨by rw [HS3.out]; rfl, rfl⟩
      · have hq := ‹neg = false›
        have HS3 : Hid (s = 0) := by unfold Hid; rw [HS2.out, hq]; rfl
        clear hq
        go_meet
        exact ⟨by rw [HS3.out]; rfl, rfl⟩
    case rest =>
      obtain ⟨rfl, rfl⟩ := hcut
      obtain ⟨R, hR⟩ : ∃ R, runD (L.drop s) = R := ⟨_, rfl⟩
      have hsl : s ≤ L.length := by
        have h1 := HS2.out
        by_cases h0 : 0 < L.length
        · rw [h1]; split <;> omega
        · have h2 := HNeg.out
          unfold negP at h2
          rw [decide_eq_false h0, Bool.false_and] at h2
          rw [h2] at h1
          have h3 : s = 0 := h1
          omega
      have HPL : Hid (parseL L = if 4000 < R.length then (nilR, s + 4000, 8) else if R.length = 0 then (nilR, s, 4) else restP L neg (s + R.length) R) := by
        unfold Hid parseL; rw [← HS.out, ← HNeg.out, hR]
      have HC := Lib.hid (r4digitsR (w := wc) hsl hL (Nat.zero_le 4000) hR)
      have hend := (runD_end hsl).1
      rw [hR] at hend
      have HRd := Lib.hid (runD_all (L.drop s))
      rw [hR] at HRd
      clear hR
      go_wp2_with fail
      refine HC.out.mono ?_
      intro e w1 hp
      rcases hp with ⟨h1, hb1, P, hP, rfl⟩ | ⟨h1, hb1, a1, c1, E, U, hE, hU, rfl, k1, k2⟩
      · have HPE : Hid (parseL L = (nilR, P, 8)) := by unfold Hid; rw [HPL.out, if_pos (by omega), hP]
        have hBz := Lib.hid (HF.out.below hb1).bl
        obtain ⟨r0, r1, r2, rf, rlt⟩ := (HF.out.below hb1).c
        have g1 : decide (-1 - (P : Int) < 0) = true := decide_eq_true (by omega)
        have hPb : P ≤ 200000 := by omega
        clear hP h1 hb1
        go_wp2
        refine bodyPost_ret (v := .tuple #[.agg #[.bool false, .slice none 0 0, .slice none 0 0], .int .i64 (P : Int), .int .i64 8]) (by simp [results, Try.results15, go_sem, r0, r1, r2]; omega) rfl ⟨_, by rw [HPE.out], by rw [HPE.out]; exact nilV _, below_store3 hBz.out (Nat.le_refl _) _ _ _⟩
      · have HK2 := Lib.hid k2
        have HF1 := Lib.hid (HF.out.below hb1)
        have hEb : E ≤ 200000 := by omega
        have g1 : decide ((E : Int) < 0) = false := decide_eq_false (by omega)
        by_cases hR0 : R.length = 0
        · have g2 : ((E : Int) == (s : Int)) = true := by rw [beq_iff_eq]; omega
          have HPE : Hid (parseL L = (nilR, s, 4)) := by unfold Hid; rw [HPL.out, if_neg (by omega), if_pos hR0]
          have hBz := Lib.hid HF1.out.bl
          obtain ⟨r0, r1, r2, rf, rlt⟩ := HF1.out.c
          clear hE hU h1 hb1 k2
          go_wp2
          refine bodyPost_ret (v := .tuple #[.agg #[.bool false, .slice none 0 0, .slice none 0 0], .int .i64 (s : Int), .int .i64 4]) (by simp [results, Try.results15, go_sem, r0, r1, r2]) rfl ⟨_, by rw [HPE.out], by rw [HPE.out]; exact nilV _, below_store3 hBz.out (Nat.le_refl _) _ _ _⟩
        · have g2 : ((E : Int) == (s : Int)) = false := by rw [beq_eq_false_iff_ne]; omega
          have HPE : Hid (parseL L = restP L neg E R) := by unfold Hid; rw [HPL.out, if_neg (by omega), if_neg hR0, hE]
          have HH := Lib.hid (valD_lt R HRd.out)
          have hNl : (limbs (valD R)).length ≤ 100000 := Nat.le_trans (limbs_len_dec HH.out) (by omega)
          have hU4 : U ≤ 4000 := by omega
          have HU := Lib.hid hU
          have HE := Lib.hid hE
          have H1 : Hid (∀ wv, Calls Try.prog 31 #[.int .u64 1] wv (RetF wv 1)) := fun wv => r1Of 1 (by decide) wv
          have HK1 := Lib.hid k1
          clear hE hU hR0 h1 hb1 k1 k2 HC HPL HS HS2 HNeg
          go_wp2_with fail
          refine (H1.out _).mono ?_
          rintro e w2 ⟨a2, c2, rfl, k3, k4, hb2, _⟩
          have HF2 := Lib.hid (HF1.out.below hb2)
          have HU1 := Lib.hid (HK2.out.below hb2)
          have HU2 := Lib.hid k4
          have HK3 := Lib.hid k3
          have hEl : E ≤ L.length := by have := HE.out; omega
          clear k3 k4 hb2 HF1 HK2 H1
          obtain ⟨cb, hcb⟩ : ∃ cb, cb = L.getD E 0 := ⟨_, rfl⟩
          have HCb := Lib.hid hcb
          obtain ⟨sep, hsep⟩ : ∃ sep : Bool, sep = decide (E < L.length ∧ (cb = 47 ∨ cb = 46)) := ⟨_, rfl⟩
          have HSep := Lib.hid hsep
          have HPR : Hid (restP L neg E R = if E < L.length ∧ (cb = 47 ∨ cb = 46) then
            (if 4000 < R.length + (runD (L.drop (E + 1))).length then (nilR, E + 1 + (4000 - R.length), 8)
            else if (runD (L.drop (E + 1))).length = 0 then (nilR, E + 1, 4)
            else if cb = 47 then tailP L neg (E + 1 + (runD (L.drop (E + 1))).length) (if valD (runD (L.drop (E + 1))) = 0 then ((E + 1 : Nat) : Int) else -1) (valD R) (valD (runD (L.drop (E + 1))))
            else tailP L neg (E + 1 + (runD (L.drop (E + 1))).length) (-1) (valD R * 10 ^ (runD (L.drop (E + 1))).length + valD (runD (L.drop (E + 1)))) (10 ^ (runD (L.drop (E + 1))).length))
            else tailP L neg E (-1) (valD R) 1) := by unfold Hid restP; rw [← hcb]
          clear hcb hsep
          go_upto_region 11 with fail
          go_cut [60] (fun s60 wx => s60 = .bool sep ∧ wx = w2)
          case first =>
            by_cases hlt : E < L.length
            · have q1 : decide (E < L.length) = true := decide_eq_true hlt
              have hidx := fun (wv : World) => index_run (P := Try.prog) Try.underlying9 L E hlt wv
              rw [← HCb.out] at hidx
              have HN : Hid (sep = decide (cb = 47 ∨ cb = 46)) := by unfold Hid; rw [HSep.out]; simp only [hlt, true_and]
              by_cases hc : cb = 47
              · have q2 : ((cb.toNat : Int) == 47) = true := by rw [hc]; rfl
                have HN2 : Hid (sep = true) := by unfold Hid; rw [HN.out, hc]; rfl
                clear hc
                go_wp2
                go_meet
                exact ⟨by rw [HN2.out], rfl⟩
              · have q2 : ((cb.toNat : Int) == 47) = false := by
                  rw [beq_eq_false_iff_ne]; intro e; exact hc (UInt8.toNat_inj.1 (by show cb.toNat = 47; omega))
                by_cases hc2 : cb = 46
                · have q3 : ((cb.toNat : Int) == 46) = true := by rw [hc2]; rfl
                  have HN2 : Hid (sep = true) := by unfold Hid; rw [HN.out, hc2]; rfl
                  clear hc hc2
                  go_wp2
                  go_meet
                  exact ⟨by rw [HN2.out], rfl⟩
                · have q3 : ((cb.toNat : Int) == 46) = false := by
                    rw [beq_eq_false_iff_ne]; intro e; exact hc2 (UInt8.toNat_inj.1 (by show cb.toNat = 46; omega))
                  have HN2 : Hid (sep = false) := by unfold Hid; rw [HN.out]; simp only [hc, hc2, or_self, decide_false]
                  clear hc hc2
                  go_wp2
                  go_meet
                  exact ⟨by rw [HN2.out], rfl⟩
            · have q1 : decide (E < L.length) = false := decide_eq_false hlt
              have HN2 : Hid (sep = false) := by unfold Hid; rw [HSep.out]; simp only [hlt, false_and, decide_false]
              go_wp2
              go_meet
              exact ⟨by rw [HN2.out], rfl⟩
          case rest =>
            obtain ⟨rfl, rfl⟩ := hcut
            go_upto_if 60 with fail
            go_cut [7, 8, 10, 11] (fun s7 s8 s10 s11 wx => CutP w wx L neg s7 s8 s10 s11)
            case first =>
              obtain ⟨f, hf⟩ : ∃ f : Nat, f = E + 1 := ⟨_, rfl⟩
              have hf1 : (E : Int) + 1 = (f : Int) := by omega
              have HFf := Lib.hid hf
              have hfE1 : f ≤ E + 1 := by omega
              have hfE2 : E + 1 ≤ f := by omega
              clear hf
              go_wp2_with fail
              · have hq := ‹sep = true›
                have hs2 : E < L.length ∧ (cb = 47 ∨ cb = 46) := of_decide_eq_true (by rw [← HSep.out]; exact hq)
                have hpr := HPR.out
                rw [if_pos hs2] at hpr
                obtain ⟨hlt, hcc⟩ := hs2
                have hidx := fun (wv : World) => index_run (P := Try.prog) Try.underlying9 L E hlt wv
                rw [← HCb.out] at hidx
                obtain ⟨Q, hQ⟩ : ∃ Q, runD (L.drop f) = Q := ⟨_, rfl⟩
                have hfl : f ≤ L.length := by omega
                have hend2 := (runD_end hfl).1
                rw [hQ] at hend2
                rw [← HFf.out, hQ] at hpr
                have HQd := Lib.hid (runD_all (L.drop f))
                rw [hQ] at HQd
                have HQ := Lib.hid hQ
                have HPr := Lib.hid hpr
                have hUe1 : U ≤ R.length := by have := HU.out; omega
                have hUe2 : R.length ≤ U := by have := HU.out; omega
                have HCc := Lib.hid hcc
                clear hq hpr hcc hQ
                go_wp2_with fail
                refine (r4digitsR (L := L) (at_ := f) (u := U) hfl hL hU4 HQ.out).mono ?_
                intro e w3 hp
                rcases hp with ⟨h1, hb1, P, hP, rfl⟩ | ⟨h1, hb1, a3, c3, E2, U2, hE2, hU2, rfl, k1, k2⟩
                · have HPE2 : Hid (parseL L = (nilR, P, 8)) := by unfold Hid; rw [HPE.out, HPr.out, if_pos (by omega), hP]; congr 2; omega
                  have hBz := Lib.hid (HF2.out.below hb1).bl
                  obtain ⟨r0, r1, r2, rf, rlt⟩ := (HF2.out.below hb1).c
                  have g3 : decide (-1 - (P : Int) < 0) = true := decide_eq_true (by omega)
                  have hPb : P ≤ 200000 := by omega
                  clear hP h1 hb1
                  go_wp2
                  refine bodyPost_ret (v := .tuple #[.agg #[.bool false, .slice none 0 0, .slice none 0 0], .int .i64 (P : Int), .int .i64 8]) (by simp [results, Try.results15, go_sem, r0, r1, r2]; omega) rfl ⟨_, by rw [HPE2.out], by rw [HPE2.out]; exact nilV _, below_store3 hBz.out (Nat.le_refl _) _ _ _⟩
                · have HF3 := Lib.hid (HF2.out.below hb1)
                  have HV1 := Lib.hid (HU1.out.below hb1)
                  have HV2 := Lib.hid (HU2.out.below hb1)
                  have HV3 := Lib.hid k2
                  have HK4 := Lib.hid k1
                  have hE2b : E2 ≤ 200000 := by omega
                  have g3 : decide ((E2 : Int) < 0) = false := decide_eq_false (by omega)
                  by_cases hQ0 : Q.length = 0
                  · have g4 : ((E2 : Int) == (f : Int)) = true := by rw [beq_iff_eq]; omega
                    have HPE2 : Hid (parseL L = (nilR, f, 4)) := by unfold Hid; rw [HPE.out, HPr.out, if_neg (by omega), if_pos hQ0]
                    have hBz := Lib.hid HF3.out.bl
                    obtain ⟨r0, r1, r2, rf, rlt⟩ := HF3.out.c
                    clear hE2 hU2 h1 hb1 k2 k1
                    go_wp2
                    refine bodyPost_ret (v := .tuple #[.agg #[.bool false, .slice none 0 0, .slice none 0 0], .int .i64 (f : Int), .int .i64 4]) (by simp [results, Try.results15, go_sem, r0, r1, r2]) rfl ⟨_, by rw [HPE2.out], by rw [HPE2.out]; exact nilV _, below_store3 hBz.out (Nat.le_refl _) _ _ _⟩
                  · have g4 : ((E2 : Int) == (f : Int)) = false := by rw [beq_eq_false_iff_ne]; omega
                    have hM := valD_lt Q HQd.out
                    have hMl : (limbs (valD Q)).length ≤ 100000 := Nat.le_trans (limbs_len_dec hM) (by omega)
                    have HM := Lib.hid hM
                    by_cases hc : cb = 47
                    · have q2 : ((cb.toNat : Int) == 47) = true := by rw [hc]; rfl
                      by_cases hz : valD Q = 0
                      · have hzl : (((limbs (valD Q)).length : Int) == 0) = true := by rw [hz, limbs_zero]; rfl
                        have HPE2 : Hid (parseL L = tailP L neg E2 (f : Int) (valD R) (valD Q)) := by unfold Hid; rw [HPE.out, HPr.out, if_neg (by omega), if_neg hQ0, if_pos hc, if_pos hz, hE2]
                        clear hc hz hE2 hU2 h1 hb1 k2 k1 hM
                        go_wp2
                        go_meet
                        exact ⟨⟨valD R, valD Q, E2, (f : Int), _, _, _, _, rfl, rfl, rfl, rfl, HK1.out, HK4.out, HV1.out, HV3.out, HF3.out, HPE2.out, hE2b, .inr ⟨by omega, by omega⟩, by omega, by omega⟩⟩
                      · have hzl : (((limbs (valD Q)).length : Int) == 0) = false := by
                          rw [beq_eq_false_iff_ne]
                          have := limbs_pos_iff.2 (Nat.pos_of_ne_zero hz)
                          omega
                        have HPE2 : Hid (parseL L = tailP L neg E2 (-1) (valD R) (valD Q)) := by unfold Hid; rw [HPE.out, HPr.out, if_neg (by omega), if_neg hQ0, if_pos hc, if_neg hz, hE2]
                        have HZ := Lib.hid (Nat.pos_of_ne_zero hz)
                        clear hc hz hE2 hU2 h1 hb1 k2 k1 hM
                        go_wp2
                        go_meet
                        exact ⟨⟨valD R, valD Q, E2, -1, _, _, _, _, rfl, rfl, rfl, rfl, HK1.out, HK4.out, HV1.out, HV3.out, HF3.out, HPE2.out, hE2b, .inl ⟨rfl, HZ.out⟩, by omega, by omega⟩⟩
                    · have q2 : ((cb.toNat : Int) == 47) = false := by
                        rw [beq_eq_false_iff_ne]; intro e; exact hc (UInt8.toNat_inj.1 (by show cb.toNat = 47; omega))
                      have HPE2 : Hid (parseL L = tailP L neg E2 (-1) (valD R * 10 ^ Q.length + valD Q) (10 ^ Q.length)) := by unfold Hid; rw [HPE.out, HPr.out, if_neg (by omega), if_neg hQ0, if_neg hc, hE2]
                      obtain ⟨ql, hql⟩ : ∃ ql, ql = Q.length := ⟨_, rfl⟩
                      have hud : (U2 : Int) - (U : Int) = (ql : Int) := by omega
                      have hqb : ql ≤ 4000 := by omega
                      have hRb : R.length ≤ 4000 := by omega
                      rw [← hql] at HPE2 HM
                      have hPl : (limbs (10 ^ ql)).length ≤ 4001 := Nat.le_trans (limbs_len_dec (n := ql + 1) (Nat.pow_lt_pow_right (by decide) (by omega))) (by omega)
                      have hNP : (limbs (valD R * 10 ^ ql)).length ≤ 8000 := by
                        refine Nat.le_trans (limbs_len_dec (n := R.length + ql) ?_) (by omega)
                        rw [Nat.pow_add]
                        exact Nat.mul_lt_mul_of_pos_right HH.out (Nat.pow_pos (by decide))
                      have hNS : (limbs (valD R * 10 ^ ql + valD Q)).length ≤ 8001 := by
                        refine Nat.le_trans (limbs_len_dec (n := R.length + ql) ?_) (by omega)
                        rw [Nat.pow_add]
                        have h1 := HH.out
                        have h2 := HM.out
                        calc valD R * 10 ^ ql + valD Q < valD R * 10 ^ ql + 10 ^ ql := by omega
                          _ = (valD R + 1) * 10 ^ ql := by rw [Nat.succ_mul]
                          _ ≤ 10 ^ R.length * 10 ^ ql := Nat.mul_le_mul_right _ h1
                      have hPp : 0 < 10 ^ ql := Nat.pow_pos (by decide)
                      have hMl2 : (limbs (valD Q)).length ≤ 100000 := hMl
                      clear hc hE2 hU2 h1 hb1 k2 k1 hql hQ0 hM
                      have HPw := Lib.hid (fun wv => r4Power (w := wv) ql (by omega))
                      generalize valD R = N at *
                      generalize valD Q = M at *
                      generalize 10 ^ ql = T at *
                      go_wp2_with fail
                      refine (HPw.out _).mono ?_
                      rintro e w4 ⟨a4, c4, rfl, k1, k2, hb4⟩
                      have HW1 := Lib.hid (HV1.out.below hb4)
                      have HW3 := Lib.hid (HV3.out.below hb4)
                      have HF4 := Lib.hid (HF3.out.below hb4)
                      have HW4 := Lib.hid k2
                      have HK5 := Lib.hid k1
                      clear k1 k2 hb4
                      go_wp2_with fail
                      refine (r1Mul c1 c4 HW1.out HW4.out (lval_limbs N) (lval_limbs T) (by omega)).mono ?_
                      rintro e w5 ⟨a5, c5, rfl, k1, k2, hb5, _⟩
                      have HX3 := Lib.hid (HW3.out.below hb5)
                      have HX4 := Lib.hid (HW4.out.below hb5)
                      have HF5 := Lib.hid (HF4.out.below hb5)
                      have HX5 := Lib.hid k2
                      clear k1 k2 hb5
                      go_wp2_with fail
                      refine (r1Add c5 c3 HX5.out HX3.out (lval_limbs (N * T)) (lval_limbs M) (by omega) (by omega)).mono ?_
                      rintro e w6 ⟨a6, c6, rfl, k1, k2, hb6, _⟩
                      have HY4 := Lib.hid (HX4.out.below hb6)
                      have HF6 := Lib.hid (HF5.out.below hb6)
                      have HY6 := Lib.hid k2
                      have HK6 := Lib.hid k1
                      clear k1 k2 hb6
                      go_wp2
                      go_meet
                      exact ⟨⟨N * T + M, T, E2, -1, _, _, _, _, rfl, rfl, rfl, rfl, HK6.out, HK5.out, HY6.out, HY4.out, HF6.out, HPE2.out, hE2b, .inl ⟨rfl, hPp⟩, by omega, by omega⟩⟩
              · have hq := ‹sep = false›
                have hns : ¬ (E < L.length ∧ (cb = 47 ∨ cb = 46)) := by have := HSep.out; rw [hq] at this; exact of_decide_eq_false this.symm
                have HPE2 : Hid (parseL L = tailP L neg E (-1) (valD R) 1) := by unfold Hid; rw [HPE.out, HPR.out, if_neg hns]
                clear hq hns
                go_meet
                exact ⟨⟨valD R, 1, E, -1, _, _, _, _, rfl, rfl, rfl, rfl, HK1.out, HK3.out, HU1.out, HU2.out, HF2.out, HPE2.out, hEb, .inl ⟨rfl, by decide⟩, by omega, by have := limbs_len64 (n := 1) (by decide); omega⟩⟩
            case rest =>
              obtain ⟨N, D, g, z, a7, c7, b7, d7, rfl, rfl, rfl, rfl, p1, p2, p3, p4, p5, p6, hgb, hz, hNb, hDb⟩ := hcut.ex
              have HPE2 := Lib.hid p6
              have HF7 := Lib.hid p5
              have HV1 := Lib.hid p3
              have HV2 := Lib.hid p4
              clear p3 p4 p5 p6 hcut
              by_cases hg : g < L.length
              · have q1 : decide (g < L.length) = true := decide_eq_true hg
                have HPE3 : Hid (parseL L = (nilR, g, 4)) := by unfold Hid; rw [HPE2.out]; unfold tailP; rw [if_pos hg]
                have hBz := Lib.hid HF7.out.bl
                obtain ⟨r0, r1, r2, rf, rlt⟩ := HF7.out.c
                go_wp2
                refine bodyPost_ret (v := .tuple #[.agg #[.bool false, .slice none 0 0, .slice none 0 0], .int .i64 (g : Int), .int .i64 4]) (by simp [results, Try.results15, go_sem, r0, r1, r2]) rfl ⟨_, by rw [HPE3.out], by rw [HPE3.out]; exact nilV _, below_store3 hBz.out (Nat.le_refl _) _ _ _⟩
              · have q1 : decide (g < L.length) = false := decide_eq_false hg
                by_cases hz0 : 0 ≤ z
                · have q2 : decide (0 ≤ z) = true := decide_eq_true hz0
                  obtain ⟨zn, rfl⟩ : ∃ zn : Nat, z = (zn : Int) := ⟨z.toNat, by omega⟩
                  have HPE3 : Hid (parseL L = (nilR, zn, 3)) := by unfold Hid; rw [HPE2.out]; unfold tailP; rw [if_neg hg, if_pos hz0, Int.toNat_natCast]
                  have hBz := Lib.hid HF7.out.bl
                  obtain ⟨r0, r1, r2, rf, rlt⟩ := HF7.out.c
                  go_wp2
                  refine bodyPost_ret (v := .tuple #[.agg #[.bool false, .slice none 0 0, .slice none 0 0], .int .i64 (zn : Int), .int .i64 3]) (by simp [results, Try.results15, go_sem, r0, r1, r2]) rfl ⟨_, by rw [HPE3.out], by rw [HPE3.out]; exact nilV _, below_store3 hBz.out (Nat.le_refl _) _ _ _⟩
                · have hz1 : z = -1 ∧ 0 < D := by rcases hz with h | h; exact h; omega
                  obtain ⟨rfl, hD⟩ := hz1
                  have HPE3 : Hid (parseL L = (ratL (mkRat (sgn neg N) D), 0, 0)) := by unfold Hid; rw [HPE2.out]; unfold tailP; rw [if_neg hg, if_neg hz0]
                  clear hz hz0 HPE2
                  go_wp2_with fail
                  refine (r2Make neg c7 p1 HV1.out (lval_limbs N) (by omega)).mono ?_
                  rintro e w8 ⟨v8, rfl, i8, hb8⟩
                  have HI8 := Lib.hid i8
                  have HF8 := Lib.hid (HF7.out.below hb8)
                  have HW2 := Lib.hid (HV2.out.below hb8)
                  clear i8 hb8
                  go_wp2_with fail
                  refine (r2Make false d7 p2 HW2.out (lval_limbs D) (by omega)).mono ?_
                  rintro e w9 ⟨v9, rfl, i9, hb9⟩
                  have HI9 := Lib.hid i9
                  have HI8b := Lib.hid (HI8.out.below hb9)
                  have HF9 := Lib.hid (HF8.out.below hb9)
                  clear i9 hb9
                  have hn1 : (sgn neg N).natAbs = N := sgn_natAbs neg N
                  have hn2 : (sgn false D).natAbs = D := sgn_natAbs false D
                  have hM := r3Make HI8b.out.v HI9.out.v (by rw [hn2]; exact hD) (by rw [hn1]; omega) (by rw [hn2]; omega)
                  have hsg : sgn (decide (sgn neg N < 0) != decide (sgn false D < 0)) (sgn neg N).natAbs = sgn neg N := by
                    have h0 : decide (sgn false D < 0) = false := decide_eq_false (by show ¬ ((D : Int) < 0); omega)
                    rw [h0, Bool.bne_false, sgn_of_int]
                  rw [hsg, hn2] at hM
                  have HM := Lib.hid hM
                  clear hM hsg hn1 hn2
                  go_wp2_with fail
                  refine HM.out.mono ?_
                  rintro e w10 ⟨v10, rfl, k10, hb10⟩
                  have hF10 := HF9.out.below hb10
                  have HRl : Hid (parseL L = (ratL (mkRat (sgn neg N) D), 0, 0)) := HPE3
                  generalize ratL (mkRat (sgn neg N) D) = X at *
                  obtain ⟨an, ad, cn, cd, rfl, m2, m3, m4, m5⟩ := k10.ex
                  have HDn := Lib.hid (hF10.done m2 m3 m4 m5 (.cells #[.bool X.neg, .slice an X.num.length cn, .slice ad X.den.length cd] 25))
                  obtain ⟨r0, r1, r2, rf, rlt⟩ := hF10.c
                  clear k10 hb10 m4 m5 hF10
                  go_wp2
                  obtain ⟨⟨z0, z1, z2, zf, zlt⟩, hRV, hBw⟩ := HDn.out
                  clear HDn
                  generalize (((w10.setCell ⟨w.heap.size, 0, none⟩ (.bool X.neg)).setCell ⟨w.heap.size, 1, none⟩ (.slice an X.num.length cn)).setCell ⟨w.heap.size, 2, none⟩ (.slice ad X.den.length cd)).alloc (.cells #[.bool X.neg, .slice an X.num.length cn, .slice ad X.den.length cd] 25) = Y at *
                  exact bodyPost_ret (v := .tuple #[.agg #[.bool X.neg, .slice an X.num.length cn, .slice ad X.den.length cd], .int .i64 0, .int .i64 0]) (by simp [results, Try.results15, go_sem, z0, z1, z2]) rfl ⟨_, by rw [HRl.out]; rfl, by rw [HRl.out]; exact hRV, hBw⟩

end Go.Proofs.Ytfmhedfiklidhaa

/-
  What Fixed of layer 4 says; the walk of the reference's Fixed: by contract.
-/
namespace Go.Proofs.Ytfmhedfiklidhaa
open Go.RowKit

/-- The rounded quotient, half away from zero. -/
def roundQ (n d p : Nat) : Nat := (n * 10 ^ p * 2 + d) / (d * 2)
/-- Zeros ahead, up to a length. -/
def padZ (k : Nat) (l : List UInt8) : List UInt8 := List.replicate (k - l.length) 48 ++ l
/-- A point ahead of the last p. -/
def dotL (p : Nat) (l : List UInt8) : List UInt8 := if p = 0 then l else l.take (l.length - p) ++ 46 :: l.drop (l.length - p)
def fixedL (neg : Bool) (n d p : Nat) : List UInt8 :=
  (if neg && decide (roundQ n d p ≠ 0) then [45] else []) ++ dotL p (padZ (p + 1) (digN (roundQ n d p)))
theorem padZ_len (k : Nat) (l : List UInt8) : (padZ k l).length = max k l.length := by unfold padZ; simp; omega
theorem add_runR {P : Program} (a : List UInt8) (c : UInt8) (h : a.length ≤ 9223372036854775800) (w : World) : (Op.stringOp .add (Str a) ⟨#[c]⟩).run P w = .ok (.string (Str (a ++ [c]))) w :=
  add_run a [c] (by simp; omega) w

theorem ret_str2 {a b : List UInt8} {k : Int} (h : a = b) : Ending.returned (.tuple #[.string (Str a), .int .i64 k]) = Ending.returned (.tuple #[.string (Str b), .int .i64 k]) := by rw [h]
theorem limbs_mul_le (a b : Nat) : (limbs (a * b)).length ≤ (limbs a).length + (limbs b).length := by
  refine limbs_len_le ?_
  rw [Nat.pow_add]
  exact Nat.mul_lt_mul'' (limbs_len_lt a) (limbs_len_lt b)
theorem limbs_add_le (a b k : Nat) (ha : (limbs a).length ≤ k) (hb : (limbs b).length ≤ k) : (limbs (a + b)).length ≤ k + 1 := by
  refine limbs_len_le ?_
  have h1 := Nat.lt_of_lt_of_le (limbs_len_lt a) (Nat.pow_le_pow_right (by decide : 0 < 4294967296) ha)
  have h2 := Nat.lt_of_lt_of_le (limbs_len_lt b) (Nat.pow_le_pow_right (by decide : 0 < 4294967296) hb)
  rw [Nat.pow_succ]
  omega
theorem limbs_pow10 (p : Nat) : (limbs (10 ^ p)).length ≤ p + 1 := limbs_len_dec (Nat.pow_lt_pow_right (by decide) (by omega))
theorem roundQ_le (N D p : Nat) (hD : 0 < D) : roundQ N D p ≤ N * 10 ^ p * 2 + D := Nat.div_le_self _ _

set_option maxRecDepth 100000 in
set_option maxHeartbeats 1600000 in
theorem r4Fixed_out {w : World} {v : Value} {x : RatL} (h : RatV w v x) (p : Int) (hp : p < 0 ∨ 4000 < p) :
    Calls Try.prog 18 #[v, .int .i64 p] w fun e w' => e = .returned (.tuple #[.string (Str []), .int .i64 2]) ∧ Below w.heap.size w w' := by
  obtain ⟨an, ad, cn, cd, rfl, h2, h3, h4, h5⟩ := h.ex
  clear h h4 h5
  by_cases h0 : p < 0
  · have g1 : decide (p < 0) = true := decide_eq_true h0
    clear hp
    go_enter Try.func18, Try.ntmps18
    go_wp2
    go_ret2
    exact ⟨rfl, (Below.refl _ _).alloc (Nat.le_refl _) _⟩
  · have g1 : decide (p < 0) = false := decide_eq_false h0
    have g2 : decide (4000 < p) = true := decide_eq_true (by omega)
    clear hp
    go_enter Try.func18, Try.ntmps18
    go_wp2
    go_ret2
    exact ⟨rfl, (Below.refl _ _).alloc (Nat.le_refl _) _⟩

set_option maxRecDepth 100000 in
set_option maxHeartbeats 3200000 in
theorem r4Fixed {w : World} {v : Value} {x : RatL} (h : RatV w v x) (hr1 : x.num.length ≤ 10000) (hr2 : x.den.length ≤ 10000) (hd0 : x.den.length = 0 ∨ 0 < lval x.den) (p : Nat) (hp : p ≤ 4000) :
    Calls Try.prog 18 #[v, .int .i64 (p : Int)] w fun e w' => e = .returned (.tuple #[.string (Str (fixedL x.neg (lval x.num) (underN x.den) p)), .int .i64 0]) ∧ Below w.heap.size w w' := by
  obtain ⟨an, ad, cn, cd, rfl, h2, h3, h4, h5⟩ := h.ex
  have hb0 : Below w.heap.size w (w.alloc (.cells #[.bool x.neg, .slice an x.num.length cn, .slice ad x.den.length cd] 25)) := (Below.refl _ w).alloc (Nat.le_refl _) _
  have hbx := Box3.alloc w (.bool x.neg) (.slice an x.num.length cn) (.slice ad x.den.length cd) 25
  have HN := Lib.hid (h4.below hb0)
  have HDn := Lib.hid (h5.below hb0)
  have HB := Lib.hid hb0
  have HBx := Lib.hid hbx
  obtain ⟨N, hN⟩ : ∃ N, N = lval x.num := ⟨_, rfl⟩
  obtain ⟨D, hD⟩ : ∃ D, D = underN x.den := ⟨_, rfl⟩
  have hNb : (limbs N).length ≤ 10000 := by rw [hN]; exact Nat.le_trans (limbs_len_of_lval h4.lim) hr1
  have HNv : Hid (lval x.num = N) := hN.symm
  have HDv : Hid ((x.den.length = 0 → D = 1) ∧ (0 < x.den.length → lval x.den = D)) := by
    unfold Hid
    refine ⟨fun e => ?_, fun e => ?_⟩
    · rw [hD]; unfold underN; rw [List.length_eq_zero_iff.1 e]; rfl
    · rw [hD]; unfold underN; rw [if_neg (by rcases hd0 with h | h <;> omega)]
  have hDp : 0 < D := by rw [hD]; exact underN_pos _
  obtain ⟨TX, hTX⟩ : ∃ TX, TX = fixedL x.neg N D p := ⟨_, rfl⟩
  rw [← hN, ← hD, ← hTX]
  have HTX := Lib.hid hTX
  have H1 : Hid (∀ wv, Calls Try.prog 31 #[.int .u64 1] wv (RetF wv 1)) := fun wv => r1Of 1 (by decide) wv
  have H2 : Hid (∀ wv, Calls Try.prog 31 #[.int .u64 2] wv (RetF wv 2)) := fun wv => r1Of 2 (by decide) wv
  have g1 : decide ((p : Int) < 0) = false := decide_eq_false (by omega)
  have g2 : decide (4000 < (p : Int)) = false := decide_eq_false (by omega)
  clear h h4 h5 hb0 hbx hN hD hTX hd0
  go_enter Try.func18, Try.ntmps18
  go_upto_region 1 with fail
  generalize w.alloc (.cells #[.bool x.neg, .slice an x.num.length cn, .slice ad x.den.length cd] 25) = W at *
  go_wp2_with fail
  refine (H1.out _).mono ?_
  rintro e w1 ⟨a1, c1, rfl, k1, k2, hb1, _⟩
  have HB1 := Lib.hid (HB.out.trans (hb1.mono HB.out.size))
  have HX1 := Lib.hid (HBx.out.below hb1)
  have HN1 := Lib.hid (HN.out.below hb1)
  have HD1 := Lib.hid (HDn.out.below hb1)
  have HO1 := Lib.hid k2
  have HK1 := Lib.hid k1
  clear k1 k2 hb1
  obtain ⟨x0, x1, x2, _, xlt⟩ := HX1.out
  go_upto_if 22 with fail
  go_cut [6] (fun s6 wx => wx = w1 ∧ ∃ (a : Option Addr) (c : Nat) (l : List Nat), s6 = .slice a l.length c ∧ l.length ≤ c ∧ Hid (U32s w1 a l) ∧ Hid (lval l = D) ∧ l.length ≤ 10000)
  case first =>
    by_cases hz : x.den.length = 0
    · have q1 : decide (0 < x.den.length) = false := decide_eq_false (by omega)
      have HE := Lib.hid (HDv.out.1 hz)
      have HL1 : Hid ((limbs 1).length ≤ 2) := limbs_len64 (by decide)
      go_wp2
      go_meet
      exact ⟨rfl, a1, c1, limbs 1, rfl, HK1.out, HO1.out, by unfold Hid; rw [lval_limbs, HE.out], by have := HL1.out; omega⟩
    · have q1 : decide (0 < x.den.length) = true := decide_eq_true (by omega)
      have HE := Lib.hid (HDv.out.2 (by omega))
      go_wp2
      go_meet
      exact ⟨rfl, ad, cd, x.den, rfl, h3, HD1.out, HE.out, hr2⟩
  case rest =>
    obtain ⟨rfl, a6, c6, l6, rfl, hc6, HU6, HV6, hl6⟩ := hcut
    have HPw := Lib.hid (fun wv => r4Power (w := wv) p (by omega))
    have hPl := limbs_pow10 p
    have hQ : Hid (roundQ N D p = (N * 10 ^ p * 2 + D) / (D * 2)) := rfl
    have HTX2 : Hid (TX = (if x.neg && decide (roundQ N D p ≠ 0) then [45] else []) ++ dotL p (padZ (p + 1) (digN (roundQ N D p)))) := HTX
    have hl1 : (limbs (N * 10 ^ p)).length ≤ 14001 := Nat.le_trans (limbs_mul_le _ _) (by omega)
    generalize 10 ^ p = T at *
    have h2l : (limbs 2).length ≤ 2 := limbs_len64 (by decide)
    have hl2 : (limbs (N * T * 2)).length ≤ 14003 := Nat.le_trans (limbs_mul_le _ _) (by omega)
    have hDl : (limbs D).length ≤ 10000 := Nat.le_trans (by rw [← HV6.out]; exact limbs_len_of_lval HU6.out.lim) hl6
    have hl3 : (limbs (N * T * 2 + D)).length ≤ 14004 := limbs_add_le _ _ 14003 hl2 (by omega)
    have hl4 : (limbs (D * 2)).length ≤ 10002 := Nat.le_trans (limbs_mul_le _ _) (by omega)
    have hD2 : 0 < D * 2 := by omega
    go_wp2_with fail
    have xbl : Below wc.heap.size wc wc.drew := (Below.refl _ _).drew
    go_region_held3 (fun w' => w'.cell? ⟨w.heap.size, 1, none⟩ = some (.slice an x.num.length cn))
      (first | exact x1 | exact (‹Below wc.heap.size wc _›.cell (p := ⟨w.heap.size, 1, none⟩) xlt).trans x1)
      (first
        | (go_at_call 32; have hS := ‹Below wc.heap.size wc _›; refine (HPw.out _).mono ?_; rintro e w3 ⟨a3, c3, rfl, k1, k2, hb3⟩; have hS3 := hS.trans (hb3.mono hS.size); have K2 := Lib.hid k2; have K1 := Lib.hid k1; clear k2 k1; have tok1 : True := trivial)
        | (go_at_call 34; have _t := tok1; clear tok1; have hS := ‹Below wc.heap.size wc _›; refine (r1Mul cn c3 (HN1.out.below hS) K2.out HNv.out (lval_limbs T) (by omega)).mono ?_; rintro e w4 ⟨a4, c4, rfl, k3, k4, hb4, _⟩; have hS4 := hS.trans (hb4.mono hS.size); have K4 := Lib.hid k4; have K3 := Lib.hid k3; clear k4 k3)
        | (go_at_call 31; have hS := ‹Below wc.heap.size wc _›; refine (H2.out _).mono ?_; rintro e w5 ⟨a5, c5, rfl, k5, k6, hb5, _⟩; have hS5 := hS.trans (hb5.mono hS.size); have K6 := Lib.hid k6; have K4' := Lib.hid (K4.out.below hb5); clear k6 k5)
        | (go_at_call 34; have hS := ‹Below wc.heap.size wc _›; refine (r1Mul c4 c5 K4'.out K6.out (lval_limbs (N * T)) (lval_limbs 2) (by omega)).mono ?_; rintro e w6 ⟨a7, c7, rfl, k7, k8, hb6, _⟩; have hS6 := hS.trans (hb6.mono hS.size); have K8 := Lib.hid k8; clear k8 k7)
        | (go_at_call 33; have hS := ‹Below wc.heap.size wc _›; refine (r1Add c7 c6 K8.out (HU6.out.below hS) (lval_limbs (N * T * 2)) HV6.out (by omega) (by omega)).mono ?_; rintro e w7 ⟨a8, c8, rfl, k9, k10, hb7, _⟩; have hS7 := hS.trans (hb7.mono hS.size); have K10 := Lib.hid k10; have K9 := Lib.hid k9; clear k10 k9))
    have HB7 := Lib.hid (HB1.out.trans (hS7.mono HB1.out.size))
    have HX7 := Lib.hid (HX1.out.below hS7)
    have HV7 := Lib.hid (HU6.out.below hS7)
    clear hS3 hS4 hS5 hS6 hS7 xbl hb3 hb4 hb5 hb6 hb7 x0 x1 x2 xlt
    go_wp2_with fail
    refine (H2.out _).mono ?_
    rintro e w8 ⟨a9, c9, rfl, k1, k2, hb8, _⟩
    have HM := Lib.hid (r1Mul c6 c9 (HV7.out.below hb8) k2 HV6.out (lval_limbs 2) (by omega))
    have HB8 := Lib.hid (HB7.out.trans (hb8.mono HB7.out.size))
    have HX8 := Lib.hid (HX7.out.below hb8)
    have HW8 := Lib.hid (K10.out.below hb8)
    clear k1 k2 hb8
    go_wp2_with fail
    refine HM.out.mono ?_
    rintro e w9 ⟨a10, c10, rfl, k1, k2, hb9, _⟩
    have HDv2 := Lib.hid (r1DivMod c8 c10 K9.out k1 (HW8.out.below hb9) k2 (lval_limbs (N * T * 2 + D)) (lval_limbs (D * 2)) (by omega) (by omega) hD2)
    have HB9 := Lib.hid (HB8.out.trans (hb9.mono HB8.out.size))
    have HX9 := Lib.hid (HX8.out.below hb9)
    clear k1 k2 hb9 HM
    go_wp2_with fail
    refine HDv2.out.mono ?_
    rintro e w10 ⟨a11, c11, a12, c12, rfl, k1, k2, k3, k4, hb10⟩
    rw [← hQ.out] at k1 k3 ⊢
    have hql : (limbs (roundQ N D p)).length ≤ 14004 := by rw [hQ.out]; exact Nat.le_trans (limbs_len_mono (Nat.div_le_self _ _)) hl3
    have hqd : nd (roundQ N D p) ≤ 140040 := Nat.le_trans (nd_limbs (limbs_len_lt _)) (by omega)
    generalize roundQ N D p = Q at *
    have HB10 := Lib.hid (HB9.out.trans (hb10.mono HB9.out.size))
    have HX10 := Lib.hid (HX9.out.below hb10)
    have HDg := Lib.hid (r4Digits c11 k1 k3 (by omega))
    clear k1 k2 k3 k4 hb10 HDv2
    go_wp2_with fail
    refine HDg.out.mono ?_
    rintro e w11 ⟨rfl, hb11⟩
    have HB11 := Lib.hid (HB10.out.trans (hb11.mono HB10.out.size))
    have HX11 := Lib.hid (HX10.out.below hb11)
    have hdl : (digN Q).length ≤ 140041 := by rw [digN_len]; split <;> omega
    have hdp := digN_pos Q
    clear hb11 HDg
    generalize hS0 : digN Q = S0 at *
    go_wp2
    go_loop [11] (fun s => ∃ k : Nat, k ≤ p + 1 - S0.length ∧ s = .string (Str (List.replicate k 48 ++ S0))) (fun s => p + 1 - strLen s)
    case atStart => exact ⟨0, Nat.zero_le _, rfl⟩
    case round =>
      obtain ⟨k, hk, rfl⟩ := hrel
      have hsz := Str_size (List.replicate k 48 ++ S0)
      obtain ⟨m, hm⟩ : ∃ m, m = k + S0.length := ⟨_, rfl⟩
      rw [List.length_append, List.length_replicate, ← hm] at hsz
      have hmb : m ≤ 200000 := by omega
      by_cases hlt : m ≤ p
      · have hadd := fun (wv : World) => add_run' (P := Try.prog) 48 (List.replicate k 48 ++ S0) (by rw [List.length_append, List.length_replicate]; omega) wv
        have HMm := Lib.hid hm
        have HSz := Lib.hid hsz
        clear hm
        go_wp2
        go_round
        case rel => exact ⟨k + 1, by have := HMm.out; omega, by rw [List.replicate_succ, List.cons_append]⟩
        case measure =>
          show p + 1 - (Str _).size < p + 1 - (Str _).size
          rw [HSz.out, Str_size, List.length_cons, List.length_append, List.length_replicate]
          have := HMm.out
          omega
      · have q1 : decide (m ≤ p) = false := decide_eq_false hlt
        have hpd : List.replicate k 48 ++ S0 = padZ (p + 1) S0 := by
          unfold padZ
          rw [show k = p + 1 - S0.length by omega]
        have hSl : (padZ (p + 1) S0).length = m := by rw [← hpd, List.length_append, List.length_replicate]; omega
        rw [hpd] at hsz ⊢
        generalize padZ (p + 1) S0 = S at *
        have hpm : p < m := by omega
        have HSl := Lib.hid hSl
        obtain ⟨x0, x1, x2, _, xlt⟩ := HX11.out
        clear hpd hm hSl hk
        by_cases hp0 : p = 0
        · have HTX3 : Hid (TX = (if x.neg && decide (Q ≠ 0) then [45] else []) ++ S) := by unfold Hid; rw [HTX2.out]; unfold dotL; rw [if_pos hp0]
          have q2 : decide (0 < p) = false := decide_eq_false (by omega)
          have hadd := fun (wv : World) => add_run' (P := Try.prog) 45 S (by rw [HSl.out]; omega) wv
          cases hn : x.neg with
          | false =>
            rw [hn] at x0 HTX3
            have HE : Hid (TX = S) := HTX3
            have HNg := Lib.hid hn
            clear hn
            go_wp2
            go_ret2
            exact ⟨ret_str2 HE.out.symm, HB11.out⟩
          | true =>
            rw [hn] at x0 HTX3
            have HNg := Lib.hid hn
            clear hn
            by_cases hQ0 : Q = 0
            · have hqz : decide (0 < (limbs Q).length) = false := by rw [hQ0, limbs_zero]; rfl
              have HE : Hid (TX = S) := by
                unfold Hid; rw [HTX3.out, hQ0]; rfl
              clear hQ0
              go_wp2
              go_ret2
              exact ⟨ret_str2 HE.out.symm, HB11.out⟩
            · have hqz : decide (0 < (limbs Q).length) = true := decide_eq_true (limbs_pos_iff.2 (Nat.pos_of_ne_zero hQ0))
              have HE : Hid (TX = 45 :: (S)) := by
                unfold Hid; rw [HTX3.out, decide_eq_true hQ0]; rfl
              clear hQ0
              go_wp2
              go_ret2
              exact ⟨ret_str2 HE.out.symm, HB11.out⟩
        · have HTX3 : Hid (TX = (if x.neg && decide (Q ≠ 0) then [45] else []) ++ (S.take (m - p) ++ 46 :: S.drop (m - p))) := by unfold Hid; rw [HTX2.out]; unfold dotL; rw [if_neg hp0, HSl.out]
          have q2 : decide (0 < p) = true := decide_eq_true (by omega)
          have e1 : (Str S).extract 0 (m - p) = Str (S.take (m - p)) := by rw [Str_extract, List.drop_zero, Nat.sub_zero]
          have e2 : (Str S).extract (m - p) m = Str (S.drop (m - p)) := by
            rw [Str_extract, List.take_of_length_le (by rw [List.length_drop, HSl.out]; exact Nat.le_refl _)]
          have hA : (S.take (m - p)).length ≤ 200000 := by rw [List.length_take]; omega
          have hB : (S.drop (m - p)).length ≤ 200000 := by rw [List.length_drop, HSl.out]; omega
          have ha1 := fun (wv : World) => add_runR (P := Try.prog) (S.take (m - p)) 46 (by omega) wv
          have ha2 := fun (wv : World) => add_run (P := Try.prog) (S.take (m - p) ++ [46]) (S.drop (m - p)) (by simp at hA hB ⊢; omega) wv
          have hsub : (m : Int) - (p : Int) = ((m - p : Nat) : Int) := by omega
          have hsubw : IntKind.i64.wrap ((m : Int) - (p : Int)) = ((m - p : Nat) : Int) := by rw [hsub]; exact IntWalk.i64_in _ (by omega)
          generalize S.take (m - p) = A at *
          generalize S.drop (m - p) = B at *
          have hadd := fun (wv : World) => add_run' (P := Try.prog) 45 (A ++ 46 :: B) (by simp; omega) wv
          have hsb : m - p ≤ m := Nat.sub_le _ _
          generalize m - p = mp at *
          clear hp0
          have HBq := Lib.hid (fun (wv : World) n => Below.drewN_refl wv n)
          cases hn : x.neg with
          | false =>
            rw [hn] at x0 HTX3
            have HE : Hid (TX = A ++ 46 :: B) := HTX3
            have HNg := Lib.hid hn
            clear hn
            go_wp2
            go_quiet (fail)
            go_wp2
            go_ret2
            exact ⟨ret_str2 HE.out.symm, HB11.out.trans ((HBq.out _ _).mono HB11.out.size)⟩
          | true =>
            rw [hn] at x0 HTX3
            have HNg := Lib.hid hn
            clear hn
            by_cases hQ0 : Q = 0
            · have hqz : decide (0 < (limbs Q).length) = false := by rw [hQ0, limbs_zero]; rfl
              have HE : Hid (TX = A ++ 46 :: B) := by
                unfold Hid; rw [HTX3.out, hQ0]; rfl
              clear hQ0
              go_wp2
              go_quiet (fail)
              go_wp2
              go_ret2
              exact ⟨ret_str2 HE.out.symm, HB11.out.trans ((HBq.out _ _).mono HB11.out.size)⟩
            · have hqz : decide (0 < (limbs Q).length) = true := decide_eq_true (limbs_pos_iff.2 (Nat.pos_of_ne_zero hQ0))
              have HE : Hid (TX = 45 :: (A ++ 46 :: B)) := by
                unfold Hid; rw [HTX3.out, decide_eq_true hQ0]; rfl
              clear hQ0
              go_wp2
              go_quiet (fail)
              go_wp2
              go_ret2
              exact ⟨ret_str2 HE.out.symm, HB11.out.trans ((HBq.out _ _).mono HB11.out.size)⟩

end Go.Proofs.Ytfmhedfiklidhaa

/-
  The walks of decimal's parser: is, digits: by contract.
-/
namespace Go.Proofs.Ytfmhedfiklidhaa
open Go.RowKit

/-- A parser in block g. -/
structure PBox (w : World) (g : Nat) (L : List UInt8) (at_ cnt : Nat) : Prop where
  c0 : w.cell? ⟨g, 0, none⟩ = some (.string (Str L))
  c1 : w.cell? ⟨g, 1, none⟩ = some (.int .i64 (at_ : Int))
  c2 : w.cell? ⟨g, 2, none⟩ = some (.int .i64 (cnt : Int))
  free : ∀ o, w.frozen? ⟨g, o, none⟩ = false
  lt : g < w.heap.size
theorem PBox.drewN {w : World} {g : Nat} {L : List UInt8} {a c : Nat} (h : PBox w g L a c) (n : Nat) : PBox (w.drewN n) g L a c := ⟨h.c0, h.c1, h.c2, h.free, h.lt⟩
theorem PBox.set1 {w : World} {g : Nat} {L : List UInt8} {a c : Nat} (h : PBox w g L a c) (b : Nat) : PBox (w.setCell ⟨g, 1, none⟩ (.int .i64 (b : Int))) g L b c := by
  have n01 : (⟨g, 1, none⟩ : Addr) ≠ ⟨g, 0, none⟩ := by intro e; cases e
  have n12 : (⟨g, 1, none⟩ : Addr) ≠ ⟨g, 2, none⟩ := by intro e; cases e
  exact ⟨(World.cell?_setCell_other _ _ _ _ n01).trans h.c0, World.cell?_setCell_same _ _ _ h.c1, (World.cell?_setCell_other _ _ _ _ n12).trans h.c2, fun o => by simp [World.frozen?_setCell, h.free o], by simpa using h.lt⟩
theorem PBox.set2 {w : World} {g : Nat} {L : List UInt8} {a c : Nat} (h : PBox w g L a c) (b : Nat) : PBox (w.setCell ⟨g, 2, none⟩ (.int .i64 (b : Int))) g L a b := by
  have n02 : (⟨g, 2, none⟩ : Addr) ≠ ⟨g, 0, none⟩ := by intro e; cases e
  have n12 : (⟨g, 2, none⟩ : Addr) ≠ ⟨g, 1, none⟩ := by intro e; cases e
  exact ⟨(World.cell?_setCell_other _ _ _ _ n02).trans h.c0, (World.cell?_setCell_other _ _ _ _ n12).trans h.c1, World.cell?_setCell_same _ _ _ h.c2, fun o => by simp [World.frozen?_setCell, h.free o], by simpa using h.lt⟩
theorem PBox.below {w w' : World} {g : Nat} {L : List UInt8} {a c : Nat} (h : PBox w g L a c) (hb : Below w.heap.size w w') : PBox w' g L a c :=
  ⟨(hb.cell h.lt).trans h.c0, (hb.cell h.lt).trans h.c1, (hb.cell h.lt).trans h.c2, fun o => (hb.frozen h.lt).trans (h.free o), Nat.lt_of_lt_of_le h.lt hb.size⟩
theorem Only.drewNB {g : Nat} {a w : World} (h : Only g a w) (n : Nat) : Only g a (w.drewN n) := ⟨h.os, h.tape, h.output, h.size, h.block⟩

/-- The next byte is c. -/
def isAt (L : List UInt8) (a : Nat) (c : UInt8) : Bool := decide (a < L.length) && (L.getD a 0 == c)

def IsPost (w : World) (g : Nat) (L : List UInt8) (a cnt : Nat) (c : UInt8) (e : Ending) (w' : World) : Prop := e = .returned (.bool (isAt L a c)) ∧ Only g w w' ∧ PBox w' g L (if isAt L a c then a + 1 else a) cnt
theorem IsPost.yes {w w' : World} {g : Nat} {L : List UInt8} {a cnt : Nat} {c : UInt8} (h : isAt L a c = true) (ho : Only g w w') (hp : PBox w' g L (a + 1) cnt) : IsPost w g L a cnt c (.returned (.bool true)) w' := ⟨by rw [h], ho, by rw [if_pos h]; exact hp⟩
theorem IsPost.no {w w' : World} {g : Nat} {L : List UInt8} {a cnt : Nat} {c : UInt8} (h : isAt L a c = false) (ho : Only g w w') (hp : PBox w' g L a cnt) : IsPost w g L a cnt c (.returned (.bool false)) w' := ⟨by rw [h], ho, by rw [if_neg (by rw [h]; simp)]; exact hp⟩

set_option maxRecDepth 100000 in
set_option maxHeartbeats 1600000 in
theorem pIs {w : World} {g : Nat} {L : List UInt8} {a cnt : Nat} (h : PBox w g L a cnt) (hL : L.length ≤ 100000) (ha : a ≤ L.length) (c : UInt8) :
    Calls Try.prog 59 #[.pointer (some ⟨g, 0, none⟩), .int .u8 (c.toNat : Int)] w (IsPost w g L a cnt c) := by
  have H := Lib.hid h
  obtain ⟨x0, x1, x2, xf, xlt⟩ := h
  have f1 := xf 1
  have hsz := Str_size L
  have HOn := Lib.hid (fun (wv : World) (n : Nat) (hh : Only g w wv) => hh.drewNB n)
  clear xf
  by_cases hlt : a < L.length
  · have hidx := fun (wv : World) => index_run (P := Try.prog) Try.underlying9 L a hlt wv
    have q1 : decide (a < L.length) = true := decide_eq_true hlt
    by_cases hc : L.getD a 0 = c
    · have HI : Hid (isAt L a c = true) := by unfold Hid isAt; rw [q1, hc]; simp
      rw [hc] at hidx
      have HSet : Hid (∀ n, PBox ((w.drewN n).setCell ⟨g, 1, none⟩ (.int .i64 ((a : Int) + 1))) g L (a + 1) cnt) := fun n => (H.out.drewN n).set1 (a + 1)
      have hq : ((c.toNat : Int) == (c.toNat : Int)) = true := by simp
      clear hc
      go_enter Try.func59, Try.ntmps59
      go_wp2
      go_quiet (fail)
      go_wp2
      go_ret
      exact IsPost.yes HI.out (((Only.refl g w).drewNB _).setCell _ _) (HSet.out _)
    · have hq : (((L.getD a 0).toNat : Int) == (c.toNat : Int)) = false := by
        rw [beq_eq_false_iff_ne]; intro e; exact hc (UInt8.toNat_inj.1 (by omega))
      have HI : Hid (isAt L a c = false) := by unfold Hid isAt; rw [q1, Bool.true_and, beq_eq_false_iff_ne]; exact hc
      clear hc
      generalize L.getD a 0 = cb at *
      go_enter Try.func59, Try.ntmps59
      go_wp2
      go_quiet (fail)
      go_wp2
      go_ret
      exact IsPost.no HI.out ((Only.refl g w).drewNB _) (H.out.drewN _)
  · have q1 : decide (a < L.length) = false := decide_eq_false hlt
    have HI : Hid (isAt L a c = false) := by unfold Hid isAt; rw [q1, Bool.false_and]
    go_enter Try.func59, Try.ntmps59
    go_wp2
    go_quiet (fail)
    go_wp2
    go_ret
    exact IsPost.no HI.out ((Only.refl g w).drewNB _) (H.out.drewN _)

theorem runD_take (M : List UInt8) : M.take (runD M).length = runD M := by
  obtain ⟨R, h1, _⟩ := runD_split M
  have h2 := congrArg (List.take (runD M).length) h1
  exact h2.trans (by simp)

/-- What digits hands back. -/
def DigPost (w : World) (g : Nat) (L : List UInt8) (a u : Nat) (e : Ending) (w' : World) : Prop :=
  (4000 < u + (runD (L.drop a)).length ∧ e = .returned (.tuple #[.string (Str []), .int .i64 8]) ∧ Only g w w' ∧ PBox w' g L (a + (4000 - u)) 4000) ∨
  (u + (runD (L.drop a)).length ≤ 4000 ∧ (runD (L.drop a)).length = 0 ∧ e = .returned (.tuple #[.string (Str []), .int .i64 4]) ∧ Only g w w' ∧ PBox w' g L a u) ∨
  (u + (runD (L.drop a)).length ≤ 4000 ∧ 0 < (runD (L.drop a)).length ∧ e = .returned (.tuple #[.string (Str (runD (L.drop a))), .int .i64 0]) ∧ Only g w w' ∧ PBox w' g L (a + (runD (L.drop a)).length) (u + (runD (L.drop a)).length))
/-- Where a parser stands. -/
def atOf (w : World) (g : Nat) : Nat := match w.cell? ⟨g, 1, none⟩ with | some (.int _ n) => n.toNat | _ => 0
theorem PBox.atOf {w : World} {g : Nat} {L : List UInt8} {a c : Nat} (h : PBox w g L a c) : atOf w g = a := by unfold Go.Proofs.Ytfmhedfiklidhaa.atOf; rw [h.c1]; simp

set_option maxRecDepth 100000 in
set_option maxHeartbeats 3200000 in
theorem pDigits {w : World} {g : Nat} {L : List UInt8} {a u : Nat} (h : PBox w g L a u) (hL : L.length ≤ 100000) (ha : a ≤ L.length) (hu : u ≤ 4000) :
    Calls Try.prog 60 #[.pointer (some ⟨g, 0, none⟩)] w (DigPost w g L a u) := by
  have H := Lib.hid h
  obtain ⟨x0, x1, x2, xf, xlt⟩ := h
  have hend := runD_end ha
  have HEnd := Lib.hid hend.2
  have hend1 := hend.1
  have HAt := Lib.hid (fun k (h : k < (runD (L.drop a)).length) => runD_at h)
  have HAll := Lib.hid (runD_all (L.drop a))
  have HTk := Lib.hid (runD_take (L.drop a))
  have hsz := Str_size L
  obtain ⟨R, hR⟩ : ∃ R, R = runD (L.drop a) := ⟨_, rfl⟩
  rw [← hR] at HEnd hend1 HAt HAll HTk
  have HR := Lib.hid hR
  clear hend xf hR
  go_enter Try.func60, Try.ntmps60
  go_wp2
  clear x0 x1 x2
  go_loopw [] (fun wr => ∃ k p q : Nat, k ≤ R.length ∧ q ≤ 4000 ∧ Hid (p = a + k ∧ q = u + k) ∧ Hid (Only g w wr) ∧ Hid (PBox wr g L p q)) (fun wr => L.length - atOf wr g)
  case atStart => exact ⟨0, a, u, Nat.zero_le _, hu, ⟨rfl, rfl⟩, Only.refl _ _, H.out⟩
  case round =>
    obtain ⟨k, p, q, hk, hq, HPQ, HO, HP⟩ := hrel
    have hp1 := HPQ.out.1
    have hq1 := HPQ.out.2
    have hAtO := HP.out.atOf
    obtain ⟨y0, y1, y2, yf, ylt⟩ := HP.out
    have HAtO := Lib.hid hAtO
    clear hAtO
    by_cases hlt : k < R.length
    · obtain ⟨hpl, hcd⟩ := HAt.out k hlt
      rw [← hp1] at hpl hcd
      have hge : R[k]? = some (R.getD k 0) := by rw [List.getD_eq_getElem?_getD, List.getElem?_eq_getElem hlt]; rfl
      have hdc := HAll.out _ (List.mem_of_getElem? hge)
      have hidx := fun (wv : World) => index_run (P := Try.prog) Try.underlying9 L p hpl wv
      rw [hcd] at hidx
      generalize R.getD k 0 = cb at *
      unfold isD at hdc
      rw [decide_eq_true_eq] at hdc
      obtain ⟨hc1, hc2⟩ := hdc
      have g1 : decide (p < L.length) = true := decide_eq_true hpl
      have g2 : decide ((48 : Int) ≤ (cb.toNat : Int)) = true := decide_eq_true (by omega)
      have g3 : decide ((cb.toNat : Int) ≤ 57) = true := decide_eq_true (by omega)
      have f1 := yf 1
      have f2 := yf 2
      by_cases h4 : q = 4000
      · have g4 : ((q : Int) == 4000) = true := by rw [beq_iff_eq]; omega
        have HE : Hid (∀ w', Only g w w' → PBox w' g L p q → DigPost w g L a u (.returned (.tuple #[.string (Str []), .int .i64 8])) w') := fun w' ho hp => by
          unfold DigPost
          rw [← HR.out]
          refine .inl ⟨by omega, rfl, ho, ?_⟩
          rw [show a + (4000 - u) = p by omega, ← h4]; exact hp
        clear hge hcd hp1 hq1 h4 yf HAt HAll HEnd
        go_wp2
        go_quiet (fail)
        go_wp2
        go_ret2
        exact HE.out _ (HO.out.drewNB _) (HP.out.drewN _)
      · have g4 : ((q : Int) == 4000) = false := by rw [beq_eq_false_iff_ne]; omega
        have HPQ2 : Hid (p + 1 = a + (k + 1) ∧ q + 1 = u + (k + 1)) := by unfold Hid; omega
        have HSet : Hid (∀ n, PBox (((wr.drewN n).setCell ⟨g, 2, none⟩ (.int .i64 ((q : Int) + 1))).setCell ⟨g, 1, none⟩ (.int .i64 ((p : Int) + 1))) g L (p + 1) (q + 1)) := fun n => ((HP.out.drewN n).set2 (q + 1)).set1 (p + 1)
        have hq41 : q + 1 ≤ 4000 := by omega
        clear hge hcd hp1 hq1 h4 yf HAt HAll HEnd
        go_wp2
        go_quiet (fail)
        go_wp2
        refine ⟨⟨k + 1, p + 1, q + 1, hlt, hq41, HPQ2.out, ((HO.out.drewNB _).setCell _ _).setCell _ _, HSet.out _⟩, ?_⟩
        rw [(HSet.out _).atOf, HAtO.out]
        omega
    · obtain rfl : k = R.length := by omega
      have hex : (Str L).extract a p = Str R := by rw [Str_extract, show p - a = R.length by omega, HTk.out]
      have hap : a ≤ p := by omega
      have hple : p ≤ L.length := by omega
      by_cases hR0 : R.length = 0
      · have g5 : ((p : Int) == (a : Int)) = true := by rw [beq_iff_eq]; omega
        have HE : Hid (∀ w', Only g w w' → PBox w' g L p q → DigPost w g L a u (.returned (.tuple #[.string (Str []), .int .i64 4])) w') := fun w' ho hp => by
          unfold DigPost
          rw [← HR.out]
          refine .inr (.inl ⟨by omega, hR0, rfl, ho, ?_⟩)
          rw [show a = p by omega, show u = q by omega]; exact hp
        have HFin := Lib.hid (fun (n : Nat) => HE.out _ (HO.out.drewNB n) (HP.out.drewN n))
        by_cases hpl : p < L.length
        · have hnd := HEnd.out (by omega)
          rw [← hp1] at hnd
          have hidx := fun (wv : World) => index_run (P := Try.prog) Try.underlying9 L p hpl wv
          generalize L.getD p 0 = cb at *
          unfold isD at hnd
          rw [decide_eq_false_iff_not] at hnd
          have g1 : decide (p < L.length) = true := decide_eq_true hpl
          by_cases h48 : 48 ≤ cb.toNat
          · have g2 : decide ((48 : Int) ≤ (cb.toNat : Int)) = true := decide_eq_true (by omega)
            have g3 : decide ((cb.toNat : Int) ≤ 57) = false := decide_eq_false (by omega)
            clear hnd hp1 hq1 hlt HAt HAll HEnd yf hR0
            go_wp2
            go_quiet (fail)
            go_wp2
            go_ret2
            exact HFin.out _
          · have g2 : decide ((48 : Int) ≤ (cb.toNat : Int)) = false := decide_eq_false (by omega)
            clear hnd hp1 hq1 hlt HAt HAll HEnd yf hR0
            go_wp2
            go_quiet (fail)
            go_wp2
            go_ret2
            exact HFin.out _
        · have g1 : decide (p < L.length) = false := decide_eq_false hpl
          clear hp1 hq1 hlt HAt HAll HEnd yf hR0
          go_wp2
          go_quiet (fail)
          go_wp2
          go_ret2
          exact HFin.out _
      · have g5 : ((p : Int) == (a : Int)) = false := by rw [beq_eq_false_iff_ne]; omega
        have HE : Hid (∀ w', Only g w w' → PBox w' g L p q → DigPost w g L a u (.returned (.tuple #[.string (Str R), .int .i64 0])) w') := fun w' ho hp => by
          unfold DigPost
          rw [← HR.out]
          refine .inr (.inr ⟨by omega, by omega, rfl, ho, ?_⟩)
          rw [← hp1, ← hq1]; exact hp
        have HFin := Lib.hid (fun (n m : Nat) => HE.out _ ((HO.out.drewNB n).drewNB m) ((HP.out.drewN n).drewN m))
        by_cases hpl : p < L.length
        · have hnd := HEnd.out (by omega)
          rw [← hp1] at hnd
          have hidx := fun (wv : World) => index_run (P := Try.prog) Try.underlying9 L p hpl wv
          generalize L.getD p 0 = cb at *
          unfold isD at hnd
          rw [decide_eq_false_iff_not] at hnd
          have g1 : decide (p < L.length) = true := decide_eq_true hpl
          by_cases h48 : 48 ≤ cb.toNat
          · have g2 : decide ((48 : Int) ≤ (cb.toNat : Int)) = true := decide_eq_true (by omega)
            have g3 : decide ((cb.toNat : Int) ≤ 57) = false := decide_eq_false (by omega)
            clear hnd hp1 hq1 hlt HAt HAll HEnd yf hR0
            go_wp2
            go_quiet (fail)
            go_wp2
            go_quiet (fail)
            go_wp2
            go_ret2
            exact HFin.out _ _
          · have g2 : decide ((48 : Int) ≤ (cb.toNat : Int)) = false := decide_eq_false (by omega)
            clear hnd hp1 hq1 hlt HAt HAll HEnd yf hR0
            go_wp2
            go_quiet (fail)
            go_wp2
            go_quiet (fail)
            go_wp2
            go_ret2
            exact HFin.out _ _
        · have g1 : decide (p < L.length) = false := decide_eq_false hpl
          clear hp1 hq1 hlt HAt HAll HEnd yf hR0
          go_wp2
          go_quiet (fail)
          go_wp2
          go_quiet (fail)
          go_wp2
          go_ret2
          exact HFin.out _ _

end Go.Proofs.Ytfmhedfiklidhaa

/-
  Texts of numbers and what Parse makes of them; Fixed's text. No program in sight.
-/
namespace Go.Proofs.Ytfmhedfiklidhaa
open Go.RowKit

theorem runD_app {A T : List UInt8} (hA : ∀ c ∈ A, isD c = true) (hT : T = [] ∨ ∃ c M, T = c :: M ∧ isD c = false) : runD (A ++ T) = A := by
  unfold runD
  rw [List.takeWhile_append_of_pos hA]
  rcases hT with rfl | ⟨c, M, rfl, hc⟩
  · simp
  · rw [List.takeWhile_cons, hc]; simp
theorem runD_all' {A : List UInt8} (hA : ∀ c ∈ A, isD c = true) : runD A = A := by
  have := runD_app (T := []) hA (.inl rfl)
  rwa [List.append_nil] at this
def sgnT (neg : Bool) : List UInt8 := if neg then [45] else []
/-- A sign, digits, and what is no digit. -/
theorem parse_head (neg : Bool) {A T : List UInt8} (hA : ∀ c ∈ A, isD c = true) (h0 : 0 < A.length) (h1 : A.length ≤ 4000) (hT : T = [] ∨ ∃ c M, T = c :: M ∧ isD c = false) :
    parseL (sgnT neg ++ (A ++ T)) = restP (sgnT neg ++ (A ++ T)) neg ((sgnT neg).length + A.length) A := by
  have hneg : negP (sgnT neg ++ (A ++ T)) = neg := by
    cases neg with
    | true => unfold negP sgnT; simp
    | false =>
      match A, h0 with
      | c :: A', _ =>
        have hc := hA c (by simp)
        unfold negP sgnT
        simp only [Bool.false_eq_true, if_false, List.nil_append, List.cons_append, List.length_cons, List.getD_cons_zero]
        rw [Bool.and_eq_false_iff]
        right
        rw [beq_eq_false_iff_ne]
        rintro rfl
        revert hc; decide
  have hfrom : fromP (sgnT neg ++ (A ++ T)) = (sgnT neg).length := by
    unfold fromP
    rw [hneg]
    cases neg <;> rfl
  have hdrop : (sgnT neg ++ (A ++ T)).drop (sgnT neg).length = A ++ T := List.drop_left
  unfold parseL
  rw [hfrom, hdrop, hneg, runD_app hA hT, if_neg (by omega), if_neg (by omega)]
theorem parse_int (neg : Bool) {A : List UInt8} (hA : ∀ c ∈ A, isD c = true) (h0 : 0 < A.length) (h1 : A.length ≤ 4000) :
    parseL (sgnT neg ++ A) = (ratL (mkRat (sgn neg (valD A)) 1), 0, 0) := by
  have h := parse_head neg (T := []) hA h0 h1 (.inl rfl)
  rw [List.append_nil] at h
  rw [h]
  have hl : (sgnT neg ++ A).length = (sgnT neg).length + A.length := List.length_append
  unfold restP
  rw [if_neg (by rw [hl]; omega)]
  unfold tailP
  rw [if_neg (by rw [hl]; omega), if_neg (by omega)]
theorem parse_sep (neg : Bool) {A B : List UInt8} {c : UInt8} (hc : c = 47 ∨ c = 46) (hA : ∀ c ∈ A, isD c = true) (h0 : 0 < A.length) (hB : ∀ c ∈ B, isD c = true) (hB0 : 0 < B.length) (h1 : A.length + B.length ≤ 4000) :
    parseL (sgnT neg ++ (A ++ c :: B)) = if c = 47 then (if valD B = 0 then (nilR, (sgnT neg).length + A.length + 1, 3) else (ratL (mkRat (sgn neg (valD A)) (valD B)), 0, 0))
      else (ratL (mkRat (sgn neg (valD A * 10 ^ B.length + valD B)) (10 ^ B.length)), 0, 0) := by
  have hnd : isD c = false := by rcases hc with rfl | rfl <;> decide
  rw [parse_head neg (T := c :: B) hA h0 (by omega) (.inr ⟨c, B, rfl, hnd⟩)]
  obtain ⟨L, hL⟩ : ∃ L, L = sgnT neg ++ (A ++ c :: B) := ⟨_, rfl⟩
  obtain ⟨e, he⟩ : ∃ e, e = (sgnT neg).length + A.length := ⟨_, rfl⟩
  rw [← hL, ← he]
  have hl : L.length = e + 1 + B.length := by rw [hL, he]; simp only [List.length_append, List.length_cons]; omega
  have hsp : L = (sgnT neg ++ A) ++ c :: B := by rw [hL, List.append_assoc]
  have hel : (sgnT neg ++ A).length = e := by rw [he, List.length_append]
  have hget : L.getD e 0 = c := by
    rw [hsp, List.getD_eq_getElem?_getD, List.getElem?_append_right (by omega), hel, Nat.sub_self]; rfl
  have hdr : L.drop (e + 1) = B := by
    rw [hsp, ← hel, ← List.drop_drop, List.drop_left]; rfl
  unfold restP
  rw [hget, hdr, runD_all' hB, if_pos ⟨by omega, hc⟩, if_neg (by omega), if_neg (by omega)]
  by_cases h47 : c = 47
  · rw [if_pos h47, if_pos h47]
    unfold tailP
    rw [if_neg (by omega)]
    by_cases hv : valD B = 0
    · rw [if_pos hv, if_pos hv, if_pos (by omega), Int.toNat_natCast]
    · rw [if_neg hv, if_neg hv, if_neg (by omega)]
  · rw [if_neg h47, if_neg h47]
    unfold tailP
    rw [if_neg (by omega), if_neg (by omega)]
theorem digN_le {n k : Nat} (h : n < 10 ^ k) (hk : 0 < k) : (digN n).length ≤ k := by
  rw [digN_len]
  split
  · exact hk
  · exact nd_div.1 (Nat.div_eq_of_lt h)
theorem canon_den {x : RatL} (hv : canonL x = x) : x.den.length = 0 ∨ lval x.den ≠ 0 := by
  by_cases h : lval x.den = 0
  · left
    have hu : underN x.den = 1 := by unfold underN; rw [if_pos h]
    have : (canonL x).den = [] := by unfold canonL quotN; rw [hu]; simp
    rw [hv] at this
    rw [this]; rfl
  · exact .inr h
/-- Parse returns a canonical number from its text. -/
theorem parse_text {x : RatL} (hv : canonL x = x) (h : (digN (lval x.num)).length + (digN (lval x.den)).length ≤ 4000) : parseL (textL x) = (x, 0, 0) := by
  have hq : ratL (mkRat (sgn x.neg (lval x.num)) (underN x.den)) = x := by
    have := canonL_ratL x
    rw [hv] at this
    exact this.symm
  show parseL (sgnT x.neg ++ (digN (lval x.num) ++ (if x.den.length = 0 then [] else 47 :: digN (lval x.den)))) = _
  rcases canon_den hv with hd | hd
  · rw [if_pos hd, List.append_nil, parse_int x.neg (digN_digits _) (digN_pos _) (by omega), digN_val]
    have hu : underN x.den = 1 := by rw [List.length_eq_zero_iff.1 hd]; rfl
    rw [hu] at hq
    rw [hq]
  · have hl : x.den.length ≠ 0 := fun e => hd (by rw [List.length_eq_zero_iff.1 e]; rfl)
    have hu : underN x.den = lval x.den := by unfold underN; rw [if_neg hd]
    rw [if_neg hl, parse_sep x.neg (.inl rfl) (digN_digits _) (digN_pos _) (digN_digits _) (digN_pos _) h, if_pos rfl, digN_val, digN_val, if_neg hd]
    rw [hu] at hq
    rw [hq]
theorem tail_ok {L : List UInt8} {neg : Bool} {g : Nat} {z : Int} {N D : Nat} (hD : 0 ≤ z ∨ 0 < D) (h : (tailP L neg g z N D).2.2 = 0) : (tailP L neg g z N D).1 = ratL (mkRat (sgn neg N) D) ∧ 0 < D := by
  unfold tailP at h ⊢
  by_cases h1 : g < L.length
  · rw [if_pos h1] at h; cases h
  · by_cases h2 : 0 ≤ z
    · rw [if_neg h1, if_pos h2] at h; cases h
    · rw [if_neg h1, if_neg h2]
      exact ⟨rfl, by rcases hD with h | h; exact absurd h h2; exact h⟩
theorem run_len (L : List UInt8) (k : Nat) : (runD (L.drop k)).length ≤ L.length := by
  obtain ⟨R, h1, _⟩ := runD_split (L.drop k)
  have h2 : (L.drop k).length = (runD (L.drop k)).length + R.length := by rw [← List.length_append, ← h1]
  have h3 : (L.drop k).length = L.length - k := List.length_drop
  omega
theorem val_run (L : List UInt8) (k : Nat) : valD (runD (L.drop k)) < 10 ^ L.length :=
  Nat.lt_of_lt_of_le (valD_lt _ (runD_all _)) (Nat.pow_le_pow_right (by decide) (run_len L k))
theorem rest_ok {L : List UInt8} {neg : Bool} {e k : Nat} (h : (restP L neg e (runD (L.drop k))).2.2 = 0) :
    ∃ N D, (restP L neg e (runD (L.drop k))).1 = ratL (mkRat (sgn neg N) D) ∧ 0 < D ∧ N < 10 ^ (2 * L.length) ∧ D ≤ 10 ^ (2 * L.length) := by
  have hp : 1 ≤ 10 ^ L.length := Nat.pow_pos (by decide)
  have h2 : 10 ^ (2 * L.length) = 10 ^ L.length * 10 ^ L.length := by rw [Nat.two_mul, Nat.pow_add]
  have hsq : 10 ^ L.length ≤ 10 ^ (2 * L.length) := Nat.pow_le_pow_right (by decide) (by omega)
  have hR := val_run L k
  have hQ := val_run L (e + 1)
  have hQl := run_len L (e + 1)
  unfold restP at h ⊢
  generalize runD (L.drop k) = R at *
  generalize runD (L.drop (e + 1)) = Q at *
  by_cases c1 : e < L.length ∧ (L.getD e 0 = 47 ∨ L.getD e 0 = 46)
  · rw [if_pos c1] at h ⊢
    by_cases c2 : 4000 < R.length + Q.length
    · rw [if_pos c2] at h; cases h
    rw [if_neg c2] at h ⊢
    by_cases c3 : Q.length = 0
    · rw [if_pos c3] at h; cases h
    rw [if_neg c3] at h ⊢
    by_cases c4 : L.getD e 0 = 47
    · rw [if_pos c4] at h ⊢
      have := tail_ok (by
        by_cases hz : valD Q = 0
        · rw [if_pos hz]; left; omega
        · right; omega) h
      exact ⟨valD R, valD Q, this.1, this.2, by omega, by omega⟩
    · rw [if_neg c4] at h ⊢
      have hq0 : 0 < 10 ^ Q.length := Nat.pow_pos (by decide)
      have hq1 : 10 ^ Q.length ≤ 10 ^ L.length := Nat.pow_le_pow_right (by decide) hQl
      have := tail_ok (.inr hq0) h
      refine ⟨_, _, this.1, this.2, ?_, by omega⟩
      rw [h2]
      have h4 : valD R * 10 ^ Q.length ≤ (10 ^ L.length - 1) * 10 ^ L.length := Nat.mul_le_mul (by omega) hq1
      rw [Nat.sub_mul, Nat.one_mul] at h4
      have h5 : 10 ^ L.length ≤ 10 ^ L.length * 10 ^ L.length := Nat.le_mul_of_pos_left _ (by omega)
      omega
  · rw [if_neg c1] at h ⊢
    have := tail_ok (.inr (by decide : 0 < 1)) h
    exact ⟨_, 1, this.1, this.2, by omega, by omega⟩
/-- What Parse accepts is a canonical number that is not too long. -/
theorem parse_ok {L : List UInt8} (h : (parseL L).2.2 = 0) : ∃ neg N D, (parseL L).1 = ratL (mkRat (sgn neg N) D) ∧ 0 < D ∧ N < 10 ^ (2 * L.length) ∧ D ≤ 10 ^ (2 * L.length) := by
  unfold parseL at h ⊢
  by_cases c1 : 4000 < (runD (L.drop (fromP L))).length
  · rw [if_pos c1] at h; cases h
  rw [if_neg c1] at h ⊢
  by_cases c2 : (runD (L.drop (fromP L))).length = 0
  · rw [if_pos c2] at h; cases h
  rw [if_neg c2] at h ⊢
  obtain ⟨N, D, k⟩ := rest_ok h
  exact ⟨_, N, D, k⟩
theorem parse_vals {L : List UInt8} {e : Nat} (he : 2 * L.length ≤ e) (h : (parseL L).2.2 = 0) : lval (parseL L).1.num < 10 ^ e ∧ lval (parseL L).1.den < 10 ^ (e + 1) ∧ canonL (parseL L).1 = (parseL L).1 := by
  obtain ⟨neg, N, D, h1, h2, h3, h4⟩ := parse_ok h
  have hq : (parseL L).1 = quotN neg N D := by rw [h1, quotN_ratL neg N h2]
  have hp : 10 ^ (2 * L.length) ≤ 10 ^ e := Nat.pow_le_pow_right (by decide) he
  have hp2 : 10 ^ (2 * L.length) < 10 ^ (e + 1) := Nat.pow_lt_pow_right (by decide) (by omega)
  refine ⟨?_, ?_, by rw [h1]; exact (valid_ratL _).symm⟩
  · rw [hq]
    show lval (limbs (N / Nat.gcd N D)) < _
    rw [lval_limbs]
    exact Nat.lt_of_le_of_lt (Nat.div_le_self _ _) (Nat.lt_of_lt_of_le h3 hp)
  · rw [hq]
    have hle : lval (quotN neg N D).den ≤ D := by
      unfold quotN
      show lval (if _ then _ else _) ≤ _
      split
      · rw [lval_nil]; omega
      · rw [lval_limbs]; exact Nat.div_le_self _ _
    exact Nat.lt_of_le_of_lt (Nat.le_trans hle h4) hp2
theorem parse_again {L : List UInt8} (h : (parseL L).2.2 = 0) (hl : L.length ≤ 200) : parseL (textL (parseL L).1) = ((parseL L).1, 0, 0) := by
  obtain ⟨h1, h2, h3⟩ := parse_vals (e := 2 * L.length + 1) (by omega) h
  have hN := digN_le h1 (by omega)
  have hD := digN_le h2 (by omega)
  exact parse_text h3 (by omega)

theorem valD_zeros (q : Nat) : valD (List.replicate q 48) = 0 := by
  induction q with
  | zero => rfl
  | succ q ih => rw [List.replicate_succ', valD_append, ih]; rfl
theorem padZ_val (k : Nat) (l : List UInt8) : valD (padZ k l) = valD l := by unfold padZ; rw [valD_append, valD_zeros]; omega
theorem padZ_digits {k : Nat} {l : List UInt8} (h : ∀ c ∈ l, isD c = true) : ∀ c ∈ padZ k l, isD c = true := by
  intro c hc
  unfold padZ at hc
  rcases List.mem_append.1 hc with h1 | h1
  · rw [List.eq_of_mem_replicate h1]; decide
  · exact h c h1
/-- Parse at Fixed's text. -/
theorem fixed_parse (neg : Bool) (n d p : Nat) (hl : (digN (roundQ n d p)).length + p + 1 ≤ 4000) : parseL (fixedL neg n d p) = (ratL (mkRat (sgn neg (roundQ n d p)) (10 ^ p)), 0, 0) := by
  unfold fixedL
  generalize roundQ n d p = Q at *
  rw [show (if (neg && decide (Q ≠ 0)) then [45] else []) = sgnT (neg && decide (Q ≠ 0)) from rfl, ← sgn_and neg Q]
  generalize (neg && decide (Q ≠ 0)) = s
  have hd := padZ_digits (k := p + 1) (digN_digits Q)
  have hv := padZ_val (p + 1) (digN Q)
  have hlen := padZ_len (p + 1) (digN Q)
  rw [digN_val] at hv
  have hpos := digN_pos Q
  generalize padZ (p + 1) (digN Q) = Z at *
  unfold dotL
  by_cases hp : p = 0
  · subst hp
    rw [if_pos rfl, parse_int s hd (by omega) (by omega), hv]
  · rw [if_neg hp]
    have hsp : Z.take (Z.length - p) ++ Z.drop (Z.length - p) = Z := List.take_append_drop _ _
    have hl1 : (Z.take (Z.length - p)).length = Z.length - p := by rw [List.length_take]; omega
    have hl2 : (Z.drop (Z.length - p)).length = p := by rw [List.length_drop]; omega
    have hv2 : valD (Z.take (Z.length - p)) * 10 ^ p + valD (Z.drop (Z.length - p)) = Q := by
      have h1 := congrArg valD hsp
      rw [valD_append, hl2] at h1
      rw [h1, hv]
    rw [parse_sep s (.inr rfl) (fun c hc => hd c (List.mem_of_mem_take hc)) (by omega) (fun c hc => hd c (List.mem_of_mem_drop hc)) (by omega) (by omega), if_neg (by decide), hl2, hv2]
/-- Rounded half up is the floor, or one more. -/
theorem round_half (M d : Nat) (hd : 0 < d) : (M * 2 + d) / (d * 2) = if d ≤ M % d + M % d then M / d + 1 else M / d := by
  have h := Nat.div_add_mod M d
  have hr := Nat.mod_lt M hd
  generalize M / d = q at *
  generalize M % d = r at *
  have he : M * 2 + d = d * 2 * q + (r + r + d) := by
    rw [← h, Nat.add_mul, Nat.mul_right_comm d q 2]
    omega
  rw [he, Nat.mul_add_div (by omega)]
  split
  · congr 1
    exact Nat.div_eq_of_lt_le (by omega) (by omega)
  · rw [Nat.div_eq_of_lt (by omega), Nat.add_zero]
theorem round_bound (n d p : Nat) (hd : 0 < d) : roundQ n d p * (d * 2) ≤ n * 10 ^ p * 2 + d ∧ n * 10 ^ p * 2 + d < roundQ n d p * (d * 2) + d * 2 := by
  unfold roundQ
  have h := Nat.div_add_mod (n * 10 ^ p * 2 + d) (d * 2)
  have hr := Nat.mod_lt (n * 10 ^ p * 2 + d) (show 0 < d * 2 by omega)
  rw [Nat.mul_comm] at h
  omega
theorem round_exact (n d p m : Nat) (hd : 0 < d) (h : n * 10 ^ p = m * d) : roundQ n d p = m := by
  unfold roundQ
  rw [h, round_half _ _ hd, Nat.mul_mod_left, Nat.mul_div_cancel _ hd, if_neg (by omega)]

end Go.Proofs.Ytfmhedfiklidhaa

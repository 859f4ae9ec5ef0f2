/-
  Contracts of the functions that the statements reach, in the order in which they are built: ModO, ModP.
-/
import Derived.Test.YthlmgejikbmmaaaS24
set_option linter.unusedVariables false
set_option linter.unusedSimpArgs false
set_option linter.constructorNameAsVariable false
set_option linter.deprecated false

/-
  The program's shape.Of: by contract.
-/
namespace Go.Proofs.Ythlmgejikbmmaaa
open Go.RowKit

/-- The shapes of a model, in new memory, or where it stops, and an error. -/
def OfPost (w : World) (p : List (List Int) × Int × Int) (e : Ending) (w' : World) : Prop :=
  (∃ a c, e = .returned (.tuple #[.slice a p.1.length c, .int .i64 p.2.1, .int .i64 p.2.2]) ∧ Intss w' (fun b => w.heap.size ≤ b) a p.1) ∧ Below w.heap.size w w'
theorem ofPost_err {w w' : World} {p : List (List Int) × Int × Int} {i n : Int} (h : p = ([], i, n)) (hb : Below w.heap.size w w') : OfPost w p (.returned (.tuple #[.slice none 0 0, .int .i64 i, .int .i64 n])) w' := by
  subst h; exact ⟨⟨none, 0, rfl, Intss.nil _ _ _⟩, hb⟩
theorem OwnSS.lt {w : World} {base E : Nat} {v : Value} {xs : List Value} {L : List (List Int)} (h : OwnSS w base E v xs L) : ∀ b, v.ownBlock = some b → b < w.heap.size := fun b hb => (h.own.lt b hb).2
theorem results_tmp3 {fn : Func} {t u x : Tmp} (h : fn.results = #[.tmp t, .tmp u, .tmp x]) (tmps : Array Value) (P : Program) (w : World) :
    (results fn tmps).run P w = .ok (.tuple #[tmps.getD t undef, tmps.getD u undef, tmps.getD x undef]) w := by
  simp [results, h]

set_option maxRecDepth 100000 in
set_option maxHeartbeats 6400000 in
theorem sOf {w : World} {m : ModL} {a1 a2 : Option Addr} (c1 c2 : Nat) (h1 : Ints w Any a1 m.input) (h2 : LaysAt w a2 m.layers) (hr : ∀ l ∈ m.layers, LayRange l) (hs : ∀ l ∈ m.layers, LayLe l) :
    Calls Try.prog 19 #[.agg #[.slice a1 m.input.length c1, .slice a2 m.layers.length c2]] w (OfPost w (shapesL m)) := by
  have q1 := h1.len
  have q2 := h2.len
  have H1 := Lib.hid h1
  have H2 := Lib.hid h2
  have HRg := Lib.hid hr
  have HSh := Lib.hid hs
  generalize hR : shapesL m = RR
  have HR := Lib.hid hR
  unfold shapesL at hR
  have HRd := Lib.hid hR
  clear h1 h2 hr hs hR
  go_enter Try.func19, Try.ntmps19
  go_upto_region 1 with fail
  have hb0 : Below w.heap.size w (w.alloc (.cells #[.slice a1 m.input.length c1, .slice a2 m.layers.length c2] 36)) := (Below.refl _ _).alloc (Nat.le_refl _) _
  have hx := Box2.alloc w (.slice a1 m.input.length c1) (.slice a2 m.layers.length c2) 36
  generalize w.alloc (.cells #[.slice a1 m.input.length c1, .slice a2 m.layers.length c2] 36) = W at *
  have HB0 := Lib.hid hb0
  have HX := Lib.hid hx
  obtain ⟨x0, x1, xf, xlt⟩ := hx
  clear hb0
  go_wp2_with fail
  refine (mValid c1 c2 (H1.out.below HB0.out) (H2.out.below HB0.out) HRg.out HSh.out).mono ?_
  rintro e w1 ⟨rfl, hb1⟩
  have HX1 := Lib.hid (HX.out.below hb1)
  have HB1 := Lib.hid (HB0.out.trans (hb1.mono HB0.out.size))
  clear hb1 x0 x1 xf xlt
  cases hvm : validM m with
  | false =>
    have HF : Hid (RR = ([], 0, 1)) := by unfold Hid; rw [← HRd.out, hvm]; rfl
    clear hvm
    go_wp2
    refine bodyPost_ret (results_tmp3 rfl _ _ _) rfl ?_
    exact ofPost_err HF.out HB1.out
  | true =>
    have HRe : Hid (shapesFrom m.input [] m.layers = RR) := by have := HRd.out; rw [hvm, if_pos rfl] at this; exact this
    have hv := validM_at hvm
    have HL64 := Lib.hid hv.2.1
    have hl64 := hv.2.1
    obtain ⟨x0, x1, xf, xlt⟩ := HX1.out
    clear hvm hv
    go_wp2
    clear x0 x1 xf xlt
    go_loopw [5, 16] (fun u i wr => ∃ (j : Nat) (xs : List Value) (T : List (List Int)), j ≤ m.layers.length ∧ i = .int .i64 (j : Int) ∧ Hid (T.length = j) ∧ Hid (shapesFrom m.input T (m.layers.drop j) = RR) ∧ Hid (OwnSS wr w1.heap.size 22 u xs T) ∧ Hid (Below w1.heap.size w1 wr)) (fun _ i _ => m.layers.length - (intOf i).toNat)
    case atStart => exact ⟨0, [], [], Nat.zero_le _, rfl, rfl, HRe.out, OwnSS.nil _ _ _, Below.refl _ _⟩
    case round =>
      obtain ⟨j, xs, T, hj, rfl, HTl, HS, HOw, HB⟩ := hrel
      have hbw := HB1.out.trans (HB.out.mono HB1.out.size)
      obtain ⟨av, cv, hu, hT⟩ := HOw.out.intss (by rw [HTl.out]; omega)
      rw [HTl.out] at hu
      subst hu
      by_cases hlt : j < m.layers.length
      · obtain ⟨x0, x1, xf, xlt⟩ := HX1.out.below HB.out
        obtain ⟨bl, ol, l, rfl, hbl, hl, b1, b2, d1, d2, ⟨l0, l1, l2, l3, l4, l5, l6, l7, l8⟩, r1, r2⟩ := (H2.out.below hbw).pick hlt
        have hmem := List.mem_of_getElem? hl
        have hdrop : m.layers.drop j = l :: m.layers.drop (j + 1) := by
          rw [List.drop_eq_getElem_cons hlt]
          congr 1
          rw [List.getElem?_eq_getElem hlt] at hl
          exact Option.some.inj hl
        have HStep : Hid ((if (outSL m.input T l).2 = 0 then shapesFrom m.input (T ++ [(outSL m.input T l).1]) (m.layers.drop (j + 1)) else ([], (j : Int), (outSL m.input T l).2)) = RR) := by
          have := HS.out
          rw [hdrop, shapesFrom_cons, HTl.out] at this
          exact this
        have hbV : Below wr.heap.size wr (wr.alloc (.cells #[.int .i64 l.kind, .int .i64 l.frm, .int .i64 l.out, .int .i64 l.kh, .int .i64 l.kw, .int .i64 l.stride, .int .i64 l.pad, .slice b1 l.weights.length d1, .slice b2 l.bias.length d2] 26)) := (Below.refl _ _).alloc (Nat.le_refl _) _
        have hbW := hbw.trans (hbV.mono hbw.size)
        have HO := Lib.hid (sOut (u := .agg #[.int .i64 l.kind, .int .i64 l.frm, .int .i64 l.out, .int .i64 l.kh, .int .i64 l.kw, .int .i64 l.stride, .int .i64 l.pad, .slice b1 l.weights.length d1, .slice b2 l.bias.length d2]) c1 cv (H1.out.below hbW) ((hT.mono (F' := Any) (fun _ _ _ => trivial)).below hbV) ⟨b1, b2, d1, d2, rfl, r1.below hbV, r2.below hbV⟩ (HRg.out l hmem) (HSh.out l hmem) (by rw [HTl.out]; omega))
        have HBV := Lib.hid hbV
        have p1 := r1.len
        have p2 := r2.len
        rw [HTl.out] at HO
        clear hmem hl hdrop hbV hbW hbw hT r1 r2 HS
        go_wp2_with fail
        refine HO.out.mono ?_
        rintro e w2 ⟨⟨a5, c5, rfl, hI5, hc5⟩, hb2⟩
        have HB2 := Lib.hid (HB.out.trans ((HBV.out.trans (hb2.mono HBV.out.size)).mono HB.out.size))
        have HOw2 := Lib.hid (HOw.out.frame (HBV.out.trans (hb2.mono HBV.out.size)))
        have HI5 := Lib.hid hI5
        have HC5 := Lib.hid hc5
        have HLt : Hid (∀ b, (Value.slice av j cv).ownBlock = some b → b < (wr.alloc (.cells #[.int .i64 l.kind, .int .i64 l.frm, .int .i64 l.out, .int .i64 l.kh, .int .i64 l.kw, .int .i64 l.stride, .int .i64 l.pad, .slice b1 l.weights.length d1, .slice b2 l.bias.length d2] 26)).heap.size) := fun b hb => by have := HOw.out.lt b hb; simp; omega
        generalize wr.alloc (.cells #[.int .i64 l.kind, .int .i64 l.frm, .int .i64 l.out, .int .i64 l.kh, .int .i64 l.kw, .int .i64 l.stride, .int .i64 l.pad, .slice b1 l.weights.length d1, .slice b2 l.bias.length d2] 26) = V at *
        have hgeV : Hid (w1.heap.size ≤ V.heap.size) := Nat.le_trans HB.out.size HBV.out.size
        generalize outSL m.input T l = P at *
        obtain ⟨o, er⟩ := P
        simp only at HI5 HC5 HStep ⊢
        clear x0 x1 xf xlt l0 l1 l2 l3 l4 l5 l6 l7 l8 hI5 hc5 hb2 HO
        by_cases he : er = 0
        · have HStep2 : Hid (shapesFrom m.input (T ++ [o]) (m.layers.drop (j + 1)) = RR) := by have := HStep.out; rw [if_pos he] at this; exact this
          have t1 : (er != 0) = false := by rw [he]; rfl
          have t2 : (er == 0) = true := by rw [he]; rfl
          have t3 : decide (¬ er = 0) = false := by simp [he]
          have HTj := Lib.hid (show j < 64 by omega)
          clear he
          go_wp2_with (at_builtin; refine wpList_app1 rfl (.tmp 33) (.tmp 35) 23 rfl w1.heap.size 22 (.slice none 0 0) 24 Try.underlying23 (by kernel_rfl) rfl (.slice av j cv) j xs rfl (by have h := HOw2.out.own; rw [HTl.out] at h; exact h) (.slice a5 o.length c5) rfl rfl (by have := HTj.out; omega) (by have := HTj.out; unfold maxLen; omega) (by exact HB2.out.size) ?_; intro v' w' hown hg hn2; have HOwn := Lib.hid hown; have HG := Lib.hid hg; have HN2 := Lib.hid hn2; clear hown hg hn2)
          have happ := HOw2.out.app (l := o) HI5.out HC5.out (fun b hb => ⟨Nat.le_trans hgeV.out hb, fun e => by have := HLt.out b e; omega⟩) (by rw [HTl.out]; exact HOwn.out) HG.out HN2.out
          have HApp := Lib.hid happ
          have HB3 := Lib.hid (HB2.out.grown HG.out HB2.out.size (fun k hk => (HOw2.out.own.lt k hk).1))
          clear happ
          go_roundw
          case rel => exact ⟨j + 1, _, T ++ [o], hlt, by go_num, by unfold Hid; rw [List.length_append, HTl.out]; rfl, HStep2.out, HApp.out, HB3.out⟩
          case measure => simp [intOf]; omega
        · have HF : Hid (RR = ([], (j : Int), er)) := by unfold Hid; rw [← HStep.out, if_neg he]
          have t1 : (er != 0) = true := by rw [bne_iff_ne]; exact he
          have t2 : (er == 0) = false := by rw [beq_eq_false_iff_ne]; exact he
          have t3 : decide (¬ er = 0) = true := by simp [he]
          clear he
          go_wp2
          refine bodyPost_ret (results_tmp3 rfl _ _ _) rfl ?_
          exact ofPost_err HF.out (HB1.out.trans (HB2.out.mono HB1.out.size))
      · obtain rfl : j = m.layers.length := by omega
        have HF : Hid (RR = (T, 0, 0)) := by
          have h := HS.out
          rw [List.drop_length] at h
          exact h.symm
        have HT := Lib.hid hT
        have HBw := Lib.hid hbw
        clear hT hbw
        go_wp2
        refine bodyPost_ret (results_tmp3 rfl _ _ _) rfl ?_
        rw [HF.out]
        exact ⟨⟨av, cv, by simp only [HTl.out]; rfl, HT.out.mono (fun b _ hb => Nat.le_trans HB1.out.size hb)⟩, HBw.out⟩

end Go.Proofs.Ythlmgejikbmmaaa

/-
  The reference of layer 12: within, multiple, canonical, layer. By contract. Printed by genModP.py.
-/
namespace Go.Proofs.Ythlmgejikbmmaaa
open Go.RowKit

set_option maxHeartbeats 400000 in
theorem r12Within (n lo hi : Int) (w : World) : Calls Try.prog 62 #[.int .i64 n, .int .i64 lo, .int .i64 hi] w fun e w' => e = .returned (.bool (wthn n lo hi)) ∧ w = w' := by
  go_enter Try.func62, Try.ntmps62
  go_wp2
  all_goals
    go_ret
    refine ⟨ret_bool ?_, rfl⟩
    unfold wthn
    rw [Bool.eq_iff_iff]
    simp
    try omega
def multB (n : Nat) (d : Int) : Bool := decide (0 < n) && (decide (n ≤ 16384) && decide ((n : Int) % d = 0))
set_option maxHeartbeats 800000 in
theorem r12Multiple (n : Nat) (d : Int) (hn : n ≤ 9223372036854775807) (h1 : 1 ≤ d) (h2 : d ≤ 1000000000) (w : World) : Calls Try.prog 64 #[.int .i64 (n : Int), .int .i64 d] w fun e w' => e = .returned (.bool (multB n d)) ∧ w = w' := by
  generalize hR : multB n d = R
  unfold multB at hR
  by_cases e2 : 0 < n
  · by_cases e3 : n ≤ 16384
    · rw [decide_eq_true e2, decide_eq_true e3] at hR
      by_cases e4 : (n : Int) % d = 0
      · have t4 : ((n : Int) % d == 0) = true := by rw [beq_iff_eq]; exact e4
        rw [decide_eq_true e4] at hR
        have HR := Lib.hid hR
        clear hR e4
        go_enter Try.func64, Try.ntmps64
        go_wp2
        go_ret
        exact ⟨ret_bool HR.out, rfl⟩
      · have t4 : ((n : Int) % d == 0) = false := by rw [beq_eq_false_iff_ne]; exact e4
        rw [decide_eq_false e4] at hR
        have HR := Lib.hid hR
        clear hR e4
        go_enter Try.func64, Try.ntmps64
        go_wp2
        go_ret
        exact ⟨ret_bool HR.out, rfl⟩
    · rw [decide_eq_true e2, decide_eq_false e3] at hR
      have HR := Lib.hid hR
      clear hR
      go_enter Try.func64, Try.ntmps64
      go_wp2
      go_ret
      exact ⟨ret_bool HR.out, rfl⟩
  · rw [decide_eq_false e2] at hR
    have HR := Lib.hid hR
    clear hR
    go_enter Try.func64, Try.ntmps64
    go_wp2
    go_ret
    exact ⟨ret_bool HR.out, rfl⟩

set_option maxRecDepth 100000 in
set_option maxHeartbeats 1600000 in
theorem r12Canonical {w : World} {a : Option Addr} {L : List RatL} (c : Nat) (h : RatsAt w a L) (hL : ∀ x ∈ L, RatLe x 1048576) :
    Calls Try.prog 63 #[.slice a L.length c] w fun e w' => e = .returned (.bool (L.all validR)) ∧ Below w.heap.size w w' := by
  have hl := h.len
  have H := Lib.hid h
  have HL := Lib.hid hL
  have HR : Hid (L.all validR = L.all validR) := rfl
  have HF : Hid (∀ x ∈ L, validR x = false → L.all validR = false) := fun x hx hf => allV_false hx hf
  clear h hL
  go_enter Try.func63, Try.ntmps63
  go_wp2
  go_loopw [3] (fun i wr => ∃ j : Nat, j ≤ L.length ∧ i = .int .i64 (j : Int) ∧ Hid ((L.take j).all validR = true) ∧ Hid (Below w.heap.size w wr)) (fun i _ => L.length - (intOf i).toNat)
  case atStart => exact ⟨0, Nat.zero_le _, rfl, rfl, Below.refl _ _⟩
  case round =>
    obtain ⟨j, hj, rfl, HA, HB⟩ := hrel
    by_cases hlt : j < L.length
    · obtain ⟨b, off, x, an, ad, cn, cd, rfl, hb, hx, o0, o1, o2, hv⟩ := (H.out.below HB.out).pick hlt
      have HM := Lib.hid (List.mem_of_getElem? hx)
      have HT := Lib.hid (allV_take hx)
      have HC := Lib.hid (r3Valid hv (HL.out _ HM.out))
      clear hx hv
      go_wp2_with fail
      refine HC.out.mono ?_
      rintro e w2 ⟨rfl, hb2⟩
      have HB2 := Lib.hid (HB.out.trans (hb2.mono HB.out.size))
      clear hb2 HC o0 o1 o2
      cases hq : validR x with
      | false =>
        have HF2 := Lib.hid (HF.out x HM.out hq)
        clear hq
        go_wp2
        go_ret
        exact ⟨ret_bool HF2.out.symm, HB2.out⟩
      | true =>
        have HT2 : Hid ((L.take (j + 1)).all validR = true) := by unfold Hid; rw [HT.out, HA.out, hq]; rfl
        clear hq
        go_wp2
        go_roundw
        case rel => exact ⟨j + 1, hlt, by go_num, HT2.out, HB2.out⟩
        case measure => simp [intOf]; omega
    · have HR2 : Hid (L.all validR = true) := by
        have h := HA.out
        rw [List.take_of_length_le (by omega)] at h
        exact h
      go_wp2
      go_ret
      exact ⟨ret_bool HR2.out.symm, HB.out⟩

def flatB (l : LayL) : Bool := (l.kh == 0) && ((l.kw == 0) && ((l.stride == 0) && (l.pad == 0)))
def noneL (l : LayL) : Bool := ((l.weights.length : Int) == 0) && ((l.bias.length : Int) == 0)
theorem wthn_sid (n : Int) : wthn n 1 64 = sidB n := by
  unfold wthn sidB
  rw [Bool.eq_iff_iff]; simp
/-- The test of a layer, in the order of the reference's text. -/
def refLay (l : LayL) (i : Int) : Bool :=
  l.weights.all validR && (l.bias.all validR &&
  (if l.kind = 1 then flatB l && ((l.frm == 0) && (wthn l.out 1 16384 && (((l.bias.length : Int) == l.out) && multB l.weights.length l.out)))
  else if l.kind = 2 then kerB l && ((l.frm == 0) && (decide (0 ≤ l.pad) && (decide (l.pad < l.kh) && (decide (l.pad < l.kw) && (wthn l.out 1 16384 && (((l.bias.length : Int) == l.out) && multB l.weights.length (l.out * l.kh * l.kw)))))))
  else if l.kind = 3 ∨ l.kind = 4 then kerB l && ((l.frm == 0) && ((l.pad == 0) && ((l.out == 0) && noneL l)))
  else if l.kind = 5 ∨ l.kind = 6 then flatB l && ((l.frm == 0) && ((l.out == 0) && noneL l))
  else if l.kind = 7 then flatB l && (wthn l.frm (-1) (i - 1) && ((l.out == 0) && noneL l))
  else false))
theorem noneL_eq (l : LayL) : noneL l = noneB l := by
  unfold noneL noneB
  rw [Bool.eq_iff_iff]
  simp only [Bool.and_eq_true, beq_iff_eq, decide_eq_true_eq]
  constructor
  · rintro ⟨h1, h2⟩; exact ⟨List.eq_nil_of_length_eq_zero (by omega), List.eq_nil_of_length_eq_zero (by omega)⟩
  · rintro ⟨h1, h2⟩; rw [h1, h2]; exact ⟨rfl, rfl⟩
theorem refLay_eq (l : LayL) (i : Int) : refLay l i = layOK l i := by
  unfold refLay layOK numsB condL
  rw [noneL_eq]
  by_cases k1 : l.kind = 1
  · rw [if_pos k1, if_pos k1, Bool.eq_iff_iff]
    unfold flatB wthn multB outB wgtB
    simp only [Bool.and_eq_true, beq_iff_eq, decide_eq_true_eq]
    constructor
    · rintro ⟨a, b, ⟨c1, c2, c3, c4⟩, d, ⟨e1, e2⟩, f, g1, g2, g3⟩; exact ⟨⟨⟨e1, e2⟩, ⟨f, g1, g2, g3⟩, d, c1, c2, c3, c4⟩, a, b⟩
    · rintro ⟨⟨⟨e1, e2⟩, ⟨f, g1, g2, g3⟩, d, c1, c2, c3, c4⟩, a, b⟩; exact ⟨a, b, ⟨c1, c2, c3, c4⟩, d, ⟨e1, e2⟩, f, g1, g2, g3⟩
  rw [if_neg k1, if_neg k1]
  by_cases k2 : l.kind = 2
  · rw [if_pos k2, if_pos k2, Bool.eq_iff_iff]
    unfold wthn multB outB wgtB
    simp only [Bool.and_eq_true, beq_iff_eq, decide_eq_true_eq]
    constructor
    · rintro ⟨a, b, c, d, p1, p2, p3, ⟨e1, e2⟩, f, g1, g2, g3⟩; exact ⟨⟨⟨e1, e2⟩, c, p1, p2, p3, ⟨f, g1, g2, g3⟩, d⟩, a, b⟩
    · rintro ⟨⟨⟨e1, e2⟩, c, p1, p2, p3, ⟨f, g1, g2, g3⟩, d⟩, a, b⟩; exact ⟨a, b, c, d, p1, p2, p3, ⟨e1, e2⟩, f, g1, g2, g3⟩
  rw [if_neg k2, if_neg k2]
  by_cases k3 : l.kind = 3 ∨ l.kind = 4
  · rw [if_pos k3, if_pos k3, Bool.eq_iff_iff]
    simp only [Bool.and_eq_true, beq_iff_eq, decide_eq_true_eq]
    constructor
    · rintro ⟨a, b, c, d, e, f, g⟩; exact ⟨⟨c, ⟨d, f, e⟩, g⟩, a, b⟩
    · rintro ⟨⟨c, ⟨d, f, e⟩, g⟩, a, b⟩; exact ⟨a, b, c, d, e, f, g⟩
  rw [if_neg k3, if_neg k3]
  by_cases k5 : l.kind = 5 ∨ l.kind = 6
  · rw [if_pos k5, if_pos k5, Bool.eq_iff_iff]
    unfold flatB
    simp only [Bool.and_eq_true, beq_iff_eq, decide_eq_true_eq]
    constructor
    · rintro ⟨a, b, ⟨c1, c2, c3, c4⟩, d, e, f⟩; exact ⟨⟨⟨d, e, c1, c2, c3, c4⟩, f⟩, a, b⟩
    · rintro ⟨⟨⟨d, e, c1, c2, c3, c4⟩, f⟩, a, b⟩; exact ⟨a, b, ⟨c1, c2, c3, c4⟩, d, e, f⟩
  rw [if_neg k5, if_neg k5]
  by_cases k7 : l.kind = 7
  · rw [if_pos k7, if_pos k7, Bool.eq_iff_iff]
    unfold flatB wthn
    simp only [Bool.and_eq_true, beq_iff_eq, decide_eq_true_eq]
    constructor
    · rintro ⟨a, b, ⟨c1, c2, c3, c4⟩, ⟨d1, d2⟩, e, f⟩; exact ⟨⟨d1, by omega, ⟨e, c1, c2, c3, c4⟩, f⟩, a, b⟩
    · rintro ⟨⟨d1, d2, ⟨e, c1, c2, c3, c4⟩, f⟩, a, b⟩; exact ⟨a, b, ⟨c1, c2, c3, c4⟩, ⟨d1, by omega⟩, e, f⟩
  rw [if_neg k7, if_neg k7]
  simp

set_option maxRecDepth 100000 in
set_option maxHeartbeats 12800000 in
theorem r12Layer0 {w : World} {v : Value} {l : LayL} (hv : LayV w v l) (hr : LayRange l) (hle : LayLe l) (i : Int) (hi : 0 ≤ i) (hi2 : i ≤ 1000000) (hk : ¬ (1 ≤ l.kind ∧ l.kind ≤ 7)) :
    Calls Try.prog 39 #[v, .int .i64 i] w fun e w' => e = .returned (.bool (layOK l i)) ∧ Below w.heap.size w w' := by
  rw [← refLay_eq]
  obtain ⟨a1, a2, c1, c2, rfl, r1, r2⟩ := hv.ex
  have q1 := r1.len
  have q2 := r2.len
  have R1 := Lib.hid r1
  have R2 := Lib.hid r2
  have HLe := Lib.hid hle
  generalize hRr : refLay l i = RR
  unfold refLay at hRr
  have HRd := Lib.hid hRr
  have HKD := Lib.hid hk
  clear hRr hv r1 r2 hr hle hk
  go_enter Try.func39, Try.ntmps39
  go_upto_region 1 with fail
  have hb0 : Below w.heap.size w (w.alloc (.cells #[.int .i64 l.kind, .int .i64 l.frm, .int .i64 l.out, .int .i64 l.kh, .int .i64 l.kw, .int .i64 l.stride, .int .i64 l.pad, .slice a1 l.weights.length c1, .slice a2 l.bias.length c2] 26)) := (Below.refl _ _).alloc (Nat.le_refl _) _
  have hx := Box9.alloc w (.int .i64 l.kind) (.int .i64 l.frm) (.int .i64 l.out) (.int .i64 l.kh) (.int .i64 l.kw) (.int .i64 l.stride) (.int .i64 l.pad) (.slice a1 l.weights.length c1) (.slice a2 l.bias.length c2) 26
  generalize w.alloc (.cells #[.int .i64 l.kind, .int .i64 l.frm, .int .i64 l.out, .int .i64 l.kh, .int .i64 l.kw, .int .i64 l.stride, .int .i64 l.pad, .slice a1 l.weights.length c1, .slice a2 l.bias.length c2] 26) = W at *
  have HB := Lib.hid hb0
  have HX := Lib.hid hx
  clear hx hb0
  obtain ⟨x0, x1, x2, x3, x4, x5, x6, x7, x8, xlt⟩ := HX.out
  have C1 : Hid (∀ W, Calls Try.prog 62 #[.int .i64 l.kh, .int .i64 1, .int .i64 64] W fun e w' => e = .returned (.bool (sidB l.kh)) ∧ W = w') := fun W => by rw [← wthn_sid]; exact r12Within _ _ _ W
  have C2 : Hid (∀ W, Calls Try.prog 62 #[.int .i64 l.kw, .int .i64 1, .int .i64 64] W fun e w' => e = .returned (.bool (sidB l.kw)) ∧ W = w') := fun W => by rw [← wthn_sid]; exact r12Within _ _ _ W
  have C3 : Hid (∀ W, Calls Try.prog 62 #[.int .i64 l.stride, .int .i64 1, .int .i64 64] W fun e w' => e = .returned (.bool (sidB l.stride)) ∧ W = w') := fun W => by rw [← wthn_sid]; exact r12Within _ _ _ W
  go_cut [5] (fun s5 wx => Hid (.bool (kerB l) = s5) ∧ Hid (W = wx))
  case first =>
    have HK : Hid (kerB l = (sidB l.kh && (sidB l.kw && sidB l.stride))) := rfl
    cases e1 : sidB l.kh with
    | false =>
      rw [e1] at C1 HK
      clear e1
      go_wp2_with fail
      refine (C1.out _).mono ?_
      rintro e w' ⟨rfl, rfl⟩
      go_wp2_with fail
      go_meet
      exact ⟨by unfold Hid; rw [HK.out]; rfl, rfl⟩
    | true =>
      rw [e1] at C1 HK
      clear e1
      cases e2 : sidB l.kw with
      | false =>
        rw [e2] at C2 HK
        clear e2
        go_wp2_with fail
        refine (C1.out _).mono ?_
        rintro e w' ⟨rfl, rfl⟩
        go_wp2_with fail
        refine (C2.out _).mono ?_
        rintro e w' ⟨rfl, rfl⟩
        go_wp2_with fail
        go_meet
        exact ⟨by unfold Hid; rw [HK.out]; rfl, rfl⟩
      | true =>
        rw [e2] at C2 HK
        clear e2
        generalize sidB l.stride = z at *
        go_wp2_with fail
        refine (C1.out _).mono ?_
        rintro e w' ⟨rfl, rfl⟩
        go_wp2_with fail
        refine (C2.out _).mono ?_
        rintro e w' ⟨rfl, rfl⟩
        go_wp2_with fail
        refine (C3.out _).mono ?_
        rintro e w' ⟨rfl, rfl⟩
        go_wp2_with fail
        go_meet
        exact ⟨by unfold Hid; rw [HK.out]; rfl, rfl⟩

  case rest =>
    obtain ⟨hs, hwx⟩ := hcut
    have e1 := hs.out
    have e2 := hwx.out
    clear hs hwx
    subst e1
    subst e2
    go_upto_region 2 with fail
    go_cut [6] (fun s6 wx => Hid (.bool (noneL l) = s6) ∧ Hid (W = wx))
    case first =>
      have HK : Hid (noneL l = (((l.weights.length : Int) == 0) && ((l.bias.length : Int) == 0))) := rfl
      cases f0 : ((l.weights.length : Int) == 0) with
      | false =>
        go_wp2_with fail
        go_meet
        exact ⟨by unfold Hid; rw [HK.out, f0]; rfl, rfl⟩
      | true =>
        cases f1 : ((l.bias.length : Int) == 0) with
        | false =>
          go_wp2_with fail
          go_meet
          exact ⟨by unfold Hid; rw [HK.out, f0, f1]; rfl, rfl⟩
        | true =>
          go_wp2_with fail
          go_meet
          exact ⟨by unfold Hid; rw [HK.out, f0, f1]; rfl, rfl⟩
    case rest =>
      obtain ⟨hs, hwx⟩ := hcut
      have e1 := hs.out
      have e2 := hwx.out
      clear hs hwx
      subst e1
      subst e2
      go_upto_region 3 with fail
      go_cut [7] (fun s7 wx => Hid (.bool (flatB l) = s7) ∧ Hid (W = wx))
      case first =>
        have HK : Hid (flatB l = ((l.kh == 0) && ((l.kw == 0) && ((l.stride == 0) && (l.pad == 0))))) := rfl
        cases f0 : (l.kh == 0) with
        | false =>
          go_wp2_with fail
          go_meet
          exact ⟨by unfold Hid; rw [HK.out, f0]; rfl, rfl⟩
        | true =>
          cases f1 : (l.kw == 0) with
          | false =>
            go_wp2_with fail
            go_meet
            exact ⟨by unfold Hid; rw [HK.out, f0, f1]; rfl, rfl⟩
          | true =>
            cases f2 : (l.stride == 0) with
            | false =>
              go_wp2_with fail
              go_meet
              exact ⟨by unfold Hid; rw [HK.out, f0, f1, f2]; rfl, rfl⟩
            | true =>
              cases f3 : (l.pad == 0) with
              | false =>
                go_wp2_with fail
                go_meet
                exact ⟨by unfold Hid; rw [HK.out, f0, f1, f2, f3]; rfl, rfl⟩
              | true =>
                go_wp2_with fail
                go_meet
                exact ⟨by unfold Hid; rw [HK.out, f0, f1, f2, f3]; rfl, rfl⟩
      case rest =>
        obtain ⟨hs, hwx⟩ := hcut
        have e1 := hs.out
        have e2 := hwx.out
        clear hs hwx
        subst e1
        subst e2
        go_upto_region 4 with fail
        obtain ⟨K, hK⟩ : ∃ K, kerB l = K := ⟨_, rfl⟩
        have HKe := Lib.hid hK
        rw [hK] at HRd ⊢
        clear hK
        generalize noneL l = NB at *
        generalize flatB l = FB at *
        have CA := Lib.hid (r12Canonical c1 (R1.out.below HB.out) HLe.out.wts)
        cases h1 : l.weights.all validR with
        | false =>
          have HF : Hid (RR = false) := by unfold Hid; rw [← HRd.out, h1]; rfl
          rw [h1] at CA
          clear h1
          go_wp2_with fail
          refine CA.out.mono ?_
          rintro e w1 ⟨rfl, hb1⟩
          have HB1 := Lib.hid (HB.out.trans (hb1.mono HB.out.size))
          clear hb1 x0 x1 x2 x3 x4 x5 x6 x7 x8
          go_wp2
          go_ret
          exact ⟨ret_bool HF.out.symm, HB1.out⟩
        | true =>
          rw [h1] at CA
          have HE1 := Lib.hid h1
          clear h1
          go_wp2_with fail
          refine CA.out.mono ?_
          rintro e w1 ⟨rfl, hb1⟩
          have HB1 := Lib.hid (HB.out.trans (hb1.mono HB.out.size))
          have HX1 := Lib.hid (HX.out.below hb1)
          clear hb1 x0 x1 x2 x3 x4 x5 x6 x7 x8 xlt CA
          obtain ⟨x0, x1, x2, x3, x4, x5, x6, x7, x8, xlt⟩ := HX1.out
          have CB := Lib.hid (r12Canonical c2 (R2.out.below HB1.out) HLe.out.bias)
          cases h2 : l.bias.all validR with
          | false =>
            have HF : Hid (RR = false) := by unfold Hid; rw [← HRd.out, HE1.out, h2]; rfl
            rw [h2] at CB
            clear h2
            go_wp2_with fail
            refine CB.out.mono ?_
            rintro e w2 ⟨rfl, hb2⟩
            have HB2 := Lib.hid (HB1.out.trans (hb2.mono HB1.out.size))
            clear hb2 x0 x1 x2 x3 x4 x5 x6 x7 x8
            go_wp2
            go_ret
            exact ⟨ret_bool HF.out.symm, HB2.out⟩
          | true =>
            rw [h2] at CB
            have HE2 := Lib.hid h2
            clear h2
            go_wp2_with fail
            refine CB.out.mono ?_
            rintro e w2 ⟨rfl, hb2⟩
            have HB2 := Lib.hid (HB1.out.trans (hb2.mono HB1.out.size))
            have HX2 := Lib.hid (HX1.out.below hb2)
            clear hb2 x0 x1 x2 x3 x4 x5 x6 x7 x8 xlt CB
            obtain ⟨x0, x1, x2, x3, x4, x5, x6, x7, x8, xlt⟩ := HX2.out
            have hk := HKD.out
            have HRk : Hid ((false) = RR) := by
              have h := HRd.out
              rw [HE1.out, HE2.out, Bool.true_and, Bool.true_and, if_neg (by omega), if_neg (by omega), if_neg (by omega), if_neg (by omega), if_neg (by omega)] at h
              exact h
            have k1 : (l.kind == 1) = false := by rw [beq_eq_false_iff_ne]; omega
            have k2 : (l.kind == 2) = false := by rw [beq_eq_false_iff_ne]; omega
            have k3 : (l.kind == 3) = false := by rw [beq_eq_false_iff_ne]; omega
            have k4 : (l.kind == 4) = false := by rw [beq_eq_false_iff_ne]; omega
            have k5 : (l.kind == 5) = false := by rw [beq_eq_false_iff_ne]; omega
            have k6 : (l.kind == 6) = false := by rw [beq_eq_false_iff_ne]; omega
            have k7 : (l.kind == 7) = false := by rw [beq_eq_false_iff_ne]; omega
            clear hk
            have HR : Hid (RR = false) := HRk.out.symm
            go_wp2
            go_ret
            exact ⟨ret_bool HR.out.symm, HB2.out⟩

set_option maxRecDepth 100000 in
set_option maxHeartbeats 12800000 in
theorem r12Layer5 {w : World} {v : Value} {l : LayL} (hv : LayV w v l) (hr : LayRange l) (hle : LayLe l) (i : Int) (hi : 0 ≤ i) (hi2 : i ≤ 1000000) (hk : l.kind = 5) :
    Calls Try.prog 39 #[v, .int .i64 i] w fun e w' => e = .returned (.bool (layOK l i)) ∧ Below w.heap.size w w' := by
  rw [← refLay_eq]
  obtain ⟨a1, a2, c1, c2, rfl, r1, r2⟩ := hv.ex
  have q1 := r1.len
  have q2 := r2.len
  have R1 := Lib.hid r1
  have R2 := Lib.hid r2
  have HLe := Lib.hid hle
  generalize hRr : refLay l i = RR
  unfold refLay at hRr
  have HRd := Lib.hid hRr
  have HKD := Lib.hid hk
  clear hRr hv r1 r2 hr hle hk
  go_enter Try.func39, Try.ntmps39
  go_upto_region 1 with fail
  have hb0 : Below w.heap.size w (w.alloc (.cells #[.int .i64 l.kind, .int .i64 l.frm, .int .i64 l.out, .int .i64 l.kh, .int .i64 l.kw, .int .i64 l.stride, .int .i64 l.pad, .slice a1 l.weights.length c1, .slice a2 l.bias.length c2] 26)) := (Below.refl _ _).alloc (Nat.le_refl _) _
  have hx := Box9.alloc w (.int .i64 l.kind) (.int .i64 l.frm) (.int .i64 l.out) (.int .i64 l.kh) (.int .i64 l.kw) (.int .i64 l.stride) (.int .i64 l.pad) (.slice a1 l.weights.length c1) (.slice a2 l.bias.length c2) 26
  generalize w.alloc (.cells #[.int .i64 l.kind, .int .i64 l.frm, .int .i64 l.out, .int .i64 l.kh, .int .i64 l.kw, .int .i64 l.stride, .int .i64 l.pad, .slice a1 l.weights.length c1, .slice a2 l.bias.length c2] 26) = W at *
  have HB := Lib.hid hb0
  have HX := Lib.hid hx
  clear hx hb0
  obtain ⟨x0, x1, x2, x3, x4, x5, x6, x7, x8, xlt⟩ := HX.out
  have C1 : Hid (∀ W, Calls Try.prog 62 #[.int .i64 l.kh, .int .i64 1, .int .i64 64] W fun e w' => e = .returned (.bool (sidB l.kh)) ∧ W = w') := fun W => by rw [← wthn_sid]; exact r12Within _ _ _ W
  have C2 : Hid (∀ W, Calls Try.prog 62 #[.int .i64 l.kw, .int .i64 1, .int .i64 64] W fun e w' => e = .returned (.bool (sidB l.kw)) ∧ W = w') := fun W => by rw [← wthn_sid]; exact r12Within _ _ _ W
  have C3 : Hid (∀ W, Calls Try.prog 62 #[.int .i64 l.stride, .int .i64 1, .int .i64 64] W fun e w' => e = .returned (.bool (sidB l.stride)) ∧ W = w') := fun W => by rw [← wthn_sid]; exact r12Within _ _ _ W
  go_cut [5] (fun s5 wx => Hid (.bool (kerB l) = s5) ∧ Hid (W = wx))
  case first =>
    have HK : Hid (kerB l = (sidB l.kh && (sidB l.kw && sidB l.stride))) := rfl
    cases e1 : sidB l.kh with
    | false =>
      rw [e1] at C1 HK
      clear e1
      go_wp2_with fail
      refine (C1.out _).mono ?_
      rintro e w' ⟨rfl, rfl⟩
      go_wp2_with fail
      go_meet
      exact ⟨by unfold Hid; rw [HK.out]; rfl, rfl⟩
    | true =>
      rw [e1] at C1 HK
      clear e1
      cases e2 : sidB l.kw with
      | false =>
        rw [e2] at C2 HK
        clear e2
        go_wp2_with fail
        refine (C1.out _).mono ?_
        rintro e w' ⟨rfl, rfl⟩
        go_wp2_with fail
        refine (C2.out _).mono ?_
        rintro e w' ⟨rfl, rfl⟩
        go_wp2_with fail
        go_meet
        exact ⟨by unfold Hid; rw [HK.out]; rfl, rfl⟩
      | true =>
        rw [e2] at C2 HK
        clear e2
        generalize sidB l.stride = z at *
        go_wp2_with fail
        refine (C1.out _).mono ?_
        rintro e w' ⟨rfl, rfl⟩
        go_wp2_with fail
        refine (C2.out _).mono ?_
        rintro e w' ⟨rfl, rfl⟩
        go_wp2_with fail
        refine (C3.out _).mono ?_
        rintro e w' ⟨rfl, rfl⟩
        go_wp2_with fail
        go_meet
        exact ⟨by unfold Hid; rw [HK.out]; rfl, rfl⟩

  case rest =>
    obtain ⟨hs, hwx⟩ := hcut
    have e1 := hs.out
    have e2 := hwx.out
    clear hs hwx
    subst e1
    subst e2
    go_upto_region 2 with fail
    go_cut [6] (fun s6 wx => Hid (.bool (noneL l) = s6) ∧ Hid (W = wx))
    case first =>
      have HK : Hid (noneL l = (((l.weights.length : Int) == 0) && ((l.bias.length : Int) == 0))) := rfl
      cases f0 : ((l.weights.length : Int) == 0) with
      | false =>
        go_wp2_with fail
        go_meet
        exact ⟨by unfold Hid; rw [HK.out, f0]; rfl, rfl⟩
      | true =>
        cases f1 : ((l.bias.length : Int) == 0) with
        | false =>
          go_wp2_with fail
          go_meet
          exact ⟨by unfold Hid; rw [HK.out, f0, f1]; rfl, rfl⟩
        | true =>
          go_wp2_with fail
          go_meet
          exact ⟨by unfold Hid; rw [HK.out, f0, f1]; rfl, rfl⟩
    case rest =>
      obtain ⟨hs, hwx⟩ := hcut
      have e1 := hs.out
      have e2 := hwx.out
      clear hs hwx
      subst e1
      subst e2
      go_upto_region 3 with fail
      go_cut [7] (fun s7 wx => Hid (.bool (flatB l) = s7) ∧ Hid (W = wx))
      case first =>
        have HK : Hid (flatB l = ((l.kh == 0) && ((l.kw == 0) && ((l.stride == 0) && (l.pad == 0))))) := rfl
        cases f0 : (l.kh == 0) with
        | false =>
          go_wp2_with fail
          go_meet
          exact ⟨by unfold Hid; rw [HK.out, f0]; rfl, rfl⟩
        | true =>
          cases f1 : (l.kw == 0) with
          | false =>
            go_wp2_with fail
            go_meet
            exact ⟨by unfold Hid; rw [HK.out, f0, f1]; rfl, rfl⟩
          | true =>
            cases f2 : (l.stride == 0) with
            | false =>
              go_wp2_with fail
              go_meet
              exact ⟨by unfold Hid; rw [HK.out, f0, f1, f2]; rfl, rfl⟩
            | true =>
              cases f3 : (l.pad == 0) with
              | false =>
                go_wp2_with fail
                go_meet
                exact ⟨by unfold Hid; rw [HK.out, f0, f1, f2, f3]; rfl, rfl⟩
              | true =>
                go_wp2_with fail
                go_meet
                exact ⟨by unfold Hid; rw [HK.out, f0, f1, f2, f3]; rfl, rfl⟩
      case rest =>
        obtain ⟨hs, hwx⟩ := hcut
        have e1 := hs.out
        have e2 := hwx.out
        clear hs hwx
        subst e1
        subst e2
        go_upto_region 4 with fail
        obtain ⟨K, hK⟩ : ∃ K, kerB l = K := ⟨_, rfl⟩
        have HKe := Lib.hid hK
        rw [hK] at HRd ⊢
        clear hK
        generalize noneL l = NB at *
        generalize flatB l = FB at *
        have CA := Lib.hid (r12Canonical c1 (R1.out.below HB.out) HLe.out.wts)
        cases h1 : l.weights.all validR with
        | false =>
          have HF : Hid (RR = false) := by unfold Hid; rw [← HRd.out, h1]; rfl
          rw [h1] at CA
          clear h1
          go_wp2_with fail
          refine CA.out.mono ?_
          rintro e w1 ⟨rfl, hb1⟩
          have HB1 := Lib.hid (HB.out.trans (hb1.mono HB.out.size))
          clear hb1 x0 x1 x2 x3 x4 x5 x6 x7 x8
          go_wp2
          go_ret
          exact ⟨ret_bool HF.out.symm, HB1.out⟩
        | true =>
          rw [h1] at CA
          have HE1 := Lib.hid h1
          clear h1
          go_wp2_with fail
          refine CA.out.mono ?_
          rintro e w1 ⟨rfl, hb1⟩
          have HB1 := Lib.hid (HB.out.trans (hb1.mono HB.out.size))
          have HX1 := Lib.hid (HX.out.below hb1)
          clear hb1 x0 x1 x2 x3 x4 x5 x6 x7 x8 xlt CA
          obtain ⟨x0, x1, x2, x3, x4, x5, x6, x7, x8, xlt⟩ := HX1.out
          have CB := Lib.hid (r12Canonical c2 (R2.out.below HB1.out) HLe.out.bias)
          cases h2 : l.bias.all validR with
          | false =>
            have HF : Hid (RR = false) := by unfold Hid; rw [← HRd.out, HE1.out, h2]; rfl
            rw [h2] at CB
            clear h2
            go_wp2_with fail
            refine CB.out.mono ?_
            rintro e w2 ⟨rfl, hb2⟩
            have HB2 := Lib.hid (HB1.out.trans (hb2.mono HB1.out.size))
            clear hb2 x0 x1 x2 x3 x4 x5 x6 x7 x8
            go_wp2
            go_ret
            exact ⟨ret_bool HF.out.symm, HB2.out⟩
          | true =>
            rw [h2] at CB
            have HE2 := Lib.hid h2
            clear h2
            go_wp2_with fail
            refine CB.out.mono ?_
            rintro e w2 ⟨rfl, hb2⟩
            have HB2 := Lib.hid (HB1.out.trans (hb2.mono HB1.out.size))
            have HX2 := Lib.hid (HX1.out.below hb2)
            clear hb2 x0 x1 x2 x3 x4 x5 x6 x7 x8 xlt CB
            obtain ⟨x0, x1, x2, x3, x4, x5, x6, x7, x8, xlt⟩ := HX2.out
            have hk := HKD.out
            have HRk : Hid ((FB && ((l.frm == 0) && ((l.out == 0) && NB))) = RR) := by
              have h := HRd.out
              rw [HE1.out, HE2.out, Bool.true_and, Bool.true_and, if_neg (by omega), if_neg (by omega), if_neg (by omega), if_pos (by omega)] at h
              exact h
            have k1 : (l.kind == 1) = false := by rw [beq_eq_false_iff_ne]; omega
            have k2 : (l.kind == 2) = false := by rw [beq_eq_false_iff_ne]; omega
            have k3 : (l.kind == 3) = false := by rw [beq_eq_false_iff_ne]; omega
            have k4 : (l.kind == 4) = false := by rw [beq_eq_false_iff_ne]; omega
            have k5 : (l.kind == 5) = true := by rw [beq_iff_eq]; omega
            clear hk
            cases FB with
            | false =>
              have HR : Hid (RR = false) := by unfold Hid; rw [← HRk.out]; rfl
              go_wp2
              go_ret
              exact ⟨ret_bool HR.out.symm, HB2.out⟩
            | true =>
              cases g1 : (l.frm == 0) with
              | false =>
                have HR : Hid (RR = false) := by unfold Hid; rw [← HRk.out, g1]; rfl
                go_wp2
                go_ret
                exact ⟨ret_bool HR.out.symm, HB2.out⟩
              | true =>
                cases g2 : (l.out == 0) with
                | false =>
                  have HR : Hid (RR = false) := by unfold Hid; rw [← HRk.out, g1, g2]; rfl
                  go_wp2
                  go_ret
                  exact ⟨ret_bool HR.out.symm, HB2.out⟩
                | true =>
                  cases NB with
                  | false =>
                    have HR : Hid (RR = false) := by unfold Hid; rw [← HRk.out, g1, g2]; rfl
                    go_wp2
                    go_ret
                    exact ⟨ret_bool HR.out.symm, HB2.out⟩
                  | true =>
                    have HR : Hid (RR = true) := by unfold Hid; rw [← HRk.out, g1, g2]; rfl
                    go_wp2
                    go_ret
                    exact ⟨ret_bool HR.out.symm, HB2.out⟩

set_option maxRecDepth 100000 in
set_option maxHeartbeats 12800000 in
theorem r12Layer6 {w : World} {v : Value} {l : LayL} (hv : LayV w v l) (hr : LayRange l) (hle : LayLe l) (i : Int) (hi : 0 ≤ i) (hi2 : i ≤ 1000000) (hk : l.kind = 6) :
    Calls Try.prog 39 #[v, .int .i64 i] w fun e w' => e = .returned (.bool (layOK l i)) ∧ Below w.heap.size w w' := by
  rw [← refLay_eq]
  obtain ⟨a1, a2, c1, c2, rfl, r1, r2⟩ := hv.ex
  have q1 := r1.len
  have q2 := r2.len
  have R1 := Lib.hid r1
  have R2 := Lib.hid r2
  have HLe := Lib.hid hle
  generalize hRr : refLay l i = RR
  unfold refLay at hRr
  have HRd := Lib.hid hRr
  have HKD := Lib.hid hk
  clear hRr hv r1 r2 hr hle hk
  go_enter Try.func39, Try.ntmps39
  go_upto_region 1 with fail
  have hb0 : Below w.heap.size w (w.alloc (.cells #[.int .i64 l.kind, .int .i64 l.frm, .int .i64 l.out, .int .i64 l.kh, .int .i64 l.kw, .int .i64 l.stride, .int .i64 l.pad, .slice a1 l.weights.length c1, .slice a2 l.bias.length c2] 26)) := (Below.refl _ _).alloc (Nat.le_refl _) _
  have hx := Box9.alloc w (.int .i64 l.kind) (.int .i64 l.frm) (.int .i64 l.out) (.int .i64 l.kh) (.int .i64 l.kw) (.int .i64 l.stride) (.int .i64 l.pad) (.slice a1 l.weights.length c1) (.slice a2 l.bias.length c2) 26
  generalize w.alloc (.cells #[.int .i64 l.kind, .int .i64 l.frm, .int .i64 l.out, .int .i64 l.kh, .int .i64 l.kw, .int .i64 l.stride, .int .i64 l.pad, .slice a1 l.weights.length c1, .slice a2 l.bias.length c2] 26) = W at *
  have HB := Lib.hid hb0
  have HX := Lib.hid hx
  clear hx hb0
  obtain ⟨x0, x1, x2, x3, x4, x5, x6, x7, x8, xlt⟩ := HX.out
  have C1 : Hid (∀ W, Calls Try.prog 62 #[.int .i64 l.kh, .int .i64 1, .int .i64 64] W fun e w' => e = .returned (.bool (sidB l.kh)) ∧ W = w') := fun W => by rw [← wthn_sid]; exact r12Within _ _ _ W
  have C2 : Hid (∀ W, Calls Try.prog 62 #[.int .i64 l.kw, .int .i64 1, .int .i64 64] W fun e w' => e = .returned (.bool (sidB l.kw)) ∧ W = w') := fun W => by rw [← wthn_sid]; exact r12Within _ _ _ W
  have C3 : Hid (∀ W, Calls Try.prog 62 #[.int .i64 l.stride, .int .i64 1, .int .i64 64] W fun e w' => e = .returned (.bool (sidB l.stride)) ∧ W = w') := fun W => by rw [← wthn_sid]; exact r12Within _ _ _ W
  go_cut [5] (fun s5 wx => Hid (.bool (kerB l) = s5) ∧ Hid (W = wx))
  case first =>
    have HK : Hid (kerB l = (sidB l.kh && (sidB l.kw && sidB l.stride))) := rfl
    cases e1 : sidB l.kh with
    | false =>
      rw [e1] at C1 HK
      clear e1
      go_wp2_with fail
      refine (C1.out _).mono ?_
      rintro e w' ⟨rfl, rfl⟩
      go_wp2_with fail
      go_meet
      exact ⟨by unfold Hid; rw [HK.out]; rfl, rfl⟩
    | true =>
      rw [e1] at C1 HK
      clear e1
      cases e2 : sidB l.kw with
      | false =>
        rw [e2] at C2 HK
        clear e2
        go_wp2_with fail
        refine (C1.out _).mono ?_
        rintro e w' ⟨rfl, rfl⟩
        go_wp2_with fail
        refine (C2.out _).mono ?_
        rintro e w' ⟨rfl, rfl⟩
        go_wp2_with fail
        go_meet
        exact ⟨by unfold Hid; rw [HK.out]; rfl, rfl⟩
      | true =>
        rw [e2] at C2 HK
        clear e2
        generalize sidB l.stride = z at *
        go_wp2_with fail
        refine (C1.out _).mono ?_
        rintro e w' ⟨rfl, rfl⟩
        go_wp2_with fail
        refine (C2.out _).mono ?_
        rintro e w' ⟨rfl, rfl⟩
        go_wp2_with fail
        refine (C3.out _).mono ?_
        rintro e w' ⟨rfl, rfl⟩
        go_wp2_with fail
        go_meet
        exact ⟨by unfold Hid; rw [HK.out]; rfl, rfl⟩

  case rest =>
    obtain ⟨hs, hwx⟩ := hcut
    have e1 := hs.out
    have e2 := hwx.out
    clear hs hwx
    subst e1
    subst e2
    go_upto_region 2 with fail
    go_cut [6] (fun s6 wx => Hid (.bool (noneL l) = s6) ∧ Hid (W = wx))
    case first =>
      have HK : Hid (noneL l = (((l.weights.length : Int) == 0) && ((l.bias.length : Int) == 0))) := rfl
      cases f0 : ((l.weights.length : Int) == 0) with
      | false =>
        go_wp2_with fail
        go_meet
        exact ⟨by unfold Hid; rw [HK.out, f0]; rfl, rfl⟩
      | true =>
        cases f1 : ((l.bias.length : Int) == 0) with
        | false =>
          go_wp2_with fail
          go_meet
          exact ⟨by unfold Hid; rw [HK.out, f0, f1]; rfl, rfl⟩
        | true =>
          go_wp2_with fail
          go_meet
          exact ⟨by unfold Hid; rw [HK.out, f0, f1]; rfl, rfl⟩
    case rest =>
      obtain ⟨hs, hwx⟩ := hcut
      have e1 := hs.out
      have e2 := hwx.out
      clear hs hwx
      subst e1
      subst e2
      go_upto_region 3 with fail
      go_cut [7] (fun s7 wx => Hid (.bool (flatB l) = s7) ∧ Hid (W = wx))
      case first =>
        have HK : Hid (flatB l = ((l.kh == 0) && ((l.kw == 0) && ((l.stride == 0) && (l.pad == 0))))) := rfl
        cases f0 : (l.kh == 0) with
        | false =>
          go_wp2_with fail
          go_meet
          exact ⟨by unfold Hid; rw [HK.out, f0]; rfl, rfl⟩
        | true =>
          cases f1 : (l.kw == 0) with
          | false =>
            go_wp2_with fail
            go_meet
            exact ⟨by unfold Hid; rw [HK.out, f0, f1]; rfl, rfl⟩
          | true =>
            cases f2 : (l.stride == 0) with
            | false =>
              go_wp2_with fail
              go_meet
              exact ⟨by unfold Hid; rw [HK.out, f0, f1, f2]; rfl, rfl⟩
            | true =>
              cases f3 : (l.pad == 0) with
              | false =>
                go_wp2_with fail
                go_meet
                exact ⟨by unfold Hid; rw [HK.out, f0, f1, f2, f3]; rfl, rfl⟩
              | true =>
                go_wp2_with fail
                go_meet
                exact ⟨by unfold Hid; rw [HK.out, f0, f1, f2, f3]; rfl, rfl⟩
      case rest =>
        obtain ⟨hs, hwx⟩ := hcut
        have e1 := hs.out
        have e2 := hwx.out
        clear hs hwx
        subst e1
        subst e2
        go_upto_region 4 with fail
        obtain ⟨K, hK⟩ : ∃ K, kerB l = K := ⟨_, rfl⟩
        have HKe := Lib.hid hK
        rw [hK] at HRd ⊢
        clear hK
        generalize noneL l = NB at *
        generalize flatB l = FB at *
        have CA := Lib.hid (r12Canonical c1 (R1.out.below HB.out) HLe.out.wts)
        cases h1 : l.weights.all validR with
        | false =>
          have HF : Hid (RR = false) := by unfold Hid; rw [← HRd.out, h1]; rfl
          rw [h1] at CA
          clear h1
          go_wp2_with fail
          refine CA.out.mono ?_
          rintro e w1 ⟨rfl, hb1⟩
          have HB1 := Lib.hid (HB.out.trans (hb1.mono HB.out.size))
          clear hb1 x0 x1 x2 x3 x4 x5 x6 x7 x8
          go_wp2
          go_ret
          exact ⟨ret_bool HF.out.symm, HB1.out⟩
        | true =>
          rw [h1] at CA
          have HE1 := Lib.hid h1
          clear h1
          go_wp2_with fail
          refine CA.out.mono ?_
          rintro e w1 ⟨rfl, hb1⟩
          have HB1 := Lib.hid (HB.out.trans (hb1.mono HB.out.size))
          have HX1 := Lib.hid (HX.out.below hb1)
          clear hb1 x0 x1 x2 x3 x4 x5 x6 x7 x8 xlt CA
          obtain ⟨x0, x1, x2, x3, x4, x5, x6, x7, x8, xlt⟩ := HX1.out
          have CB := Lib.hid (r12Canonical c2 (R2.out.below HB1.out) HLe.out.bias)
          cases h2 : l.bias.all validR with
          | false =>
            have HF : Hid (RR = false) := by unfold Hid; rw [← HRd.out, HE1.out, h2]; rfl
            rw [h2] at CB
            clear h2
            go_wp2_with fail
            refine CB.out.mono ?_
            rintro e w2 ⟨rfl, hb2⟩
            have HB2 := Lib.hid (HB1.out.trans (hb2.mono HB1.out.size))
            clear hb2 x0 x1 x2 x3 x4 x5 x6 x7 x8
            go_wp2
            go_ret
            exact ⟨ret_bool HF.out.symm, HB2.out⟩
          | true =>
            rw [h2] at CB
            have HE2 := Lib.hid h2
            clear h2
            go_wp2_with fail
            refine CB.out.mono ?_
            rintro e w2 ⟨rfl, hb2⟩
            have HB2 := Lib.hid (HB1.out.trans (hb2.mono HB1.out.size))
            have HX2 := Lib.hid (HX1.out.below hb2)
            clear hb2 x0 x1 x2 x3 x4 x5 x6 x7 x8 xlt CB
            obtain ⟨x0, x1, x2, x3, x4, x5, x6, x7, x8, xlt⟩ := HX2.out
            have hk := HKD.out
            have HRk : Hid ((FB && ((l.frm == 0) && ((l.out == 0) && NB))) = RR) := by
              have h := HRd.out
              rw [HE1.out, HE2.out, Bool.true_and, Bool.true_and, if_neg (by omega), if_neg (by omega), if_neg (by omega), if_pos (by omega)] at h
              exact h
            have k1 : (l.kind == 1) = false := by rw [beq_eq_false_iff_ne]; omega
            have k2 : (l.kind == 2) = false := by rw [beq_eq_false_iff_ne]; omega
            have k3 : (l.kind == 3) = false := by rw [beq_eq_false_iff_ne]; omega
            have k4 : (l.kind == 4) = false := by rw [beq_eq_false_iff_ne]; omega
            have k5 : (l.kind == 5) = false := by rw [beq_eq_false_iff_ne]; omega
            have k6 : (l.kind == 6) = true := by rw [beq_iff_eq]; omega
            clear hk
            cases FB with
            | false =>
              have HR : Hid (RR = false) := by unfold Hid; rw [← HRk.out]; rfl
              go_wp2
              go_ret
              exact ⟨ret_bool HR.out.symm, HB2.out⟩
            | true =>
              cases g1 : (l.frm == 0) with
              | false =>
                have HR : Hid (RR = false) := by unfold Hid; rw [← HRk.out, g1]; rfl
                go_wp2
                go_ret
                exact ⟨ret_bool HR.out.symm, HB2.out⟩
              | true =>
                cases g2 : (l.out == 0) with
                | false =>
                  have HR : Hid (RR = false) := by unfold Hid; rw [← HRk.out, g1, g2]; rfl
                  go_wp2
                  go_ret
                  exact ⟨ret_bool HR.out.symm, HB2.out⟩
                | true =>
                  cases NB with
                  | false =>
                    have HR : Hid (RR = false) := by unfold Hid; rw [← HRk.out, g1, g2]; rfl
                    go_wp2
                    go_ret
                    exact ⟨ret_bool HR.out.symm, HB2.out⟩
                  | true =>
                    have HR : Hid (RR = true) := by unfold Hid; rw [← HRk.out, g1, g2]; rfl
                    go_wp2
                    go_ret
                    exact ⟨ret_bool HR.out.symm, HB2.out⟩

set_option maxRecDepth 100000 in
set_option maxHeartbeats 12800000 in
theorem r12Layer7 {w : World} {v : Value} {l : LayL} (hv : LayV w v l) (hr : LayRange l) (hle : LayLe l) (i : Int) (hi : 0 ≤ i) (hi2 : i ≤ 1000000) (hk : l.kind = 7) :
    Calls Try.prog 39 #[v, .int .i64 i] w fun e w' => e = .returned (.bool (layOK l i)) ∧ Below w.heap.size w w' := by
  rw [← refLay_eq]
  obtain ⟨a1, a2, c1, c2, rfl, r1, r2⟩ := hv.ex
  have q1 := r1.len
  have q2 := r2.len
  have R1 := Lib.hid r1
  have R2 := Lib.hid r2
  have HLe := Lib.hid hle
  generalize hRr : refLay l i = RR
  unfold refLay at hRr
  have HRd := Lib.hid hRr
  have HKD := Lib.hid hk
  clear hRr hv r1 r2 hr hle hk
  go_enter Try.func39, Try.ntmps39
  go_upto_region 1 with fail
  have hb0 : Below w.heap.size w (w.alloc (.cells #[.int .i64 l.kind, .int .i64 l.frm, .int .i64 l.out, .int .i64 l.kh, .int .i64 l.kw, .int .i64 l.stride, .int .i64 l.pad, .slice a1 l.weights.length c1, .slice a2 l.bias.length c2] 26)) := (Below.refl _ _).alloc (Nat.le_refl _) _
  have hx := Box9.alloc w (.int .i64 l.kind) (.int .i64 l.frm) (.int .i64 l.out) (.int .i64 l.kh) (.int .i64 l.kw) (.int .i64 l.stride) (.int .i64 l.pad) (.slice a1 l.weights.length c1) (.slice a2 l.bias.length c2) 26
  generalize w.alloc (.cells #[.int .i64 l.kind, .int .i64 l.frm, .int .i64 l.out, .int .i64 l.kh, .int .i64 l.kw, .int .i64 l.stride, .int .i64 l.pad, .slice a1 l.weights.length c1, .slice a2 l.bias.length c2] 26) = W at *
  have HB := Lib.hid hb0
  have HX := Lib.hid hx
  clear hx hb0
  obtain ⟨x0, x1, x2, x3, x4, x5, x6, x7, x8, xlt⟩ := HX.out
  have C1 : Hid (∀ W, Calls Try.prog 62 #[.int .i64 l.kh, .int .i64 1, .int .i64 64] W fun e w' => e = .returned (.bool (sidB l.kh)) ∧ W = w') := fun W => by rw [← wthn_sid]; exact r12Within _ _ _ W
  have C2 : Hid (∀ W, Calls Try.prog 62 #[.int .i64 l.kw, .int .i64 1, .int .i64 64] W fun e w' => e = .returned (.bool (sidB l.kw)) ∧ W = w') := fun W => by rw [← wthn_sid]; exact r12Within _ _ _ W
  have C3 : Hid (∀ W, Calls Try.prog 62 #[.int .i64 l.stride, .int .i64 1, .int .i64 64] W fun e w' => e = .returned (.bool (sidB l.stride)) ∧ W = w') := fun W => by rw [← wthn_sid]; exact r12Within _ _ _ W
  go_cut [5] (fun s5 wx => Hid (.bool (kerB l) = s5) ∧ Hid (W = wx))
  case first =>
    have HK : Hid (kerB l = (sidB l.kh && (sidB l.kw && sidB l.stride))) := rfl
    cases e1 : sidB l.kh with
    | false =>
      rw [e1] at C1 HK
      clear e1
      go_wp2_with fail
      refine (C1.out _).mono ?_
      rintro e w' ⟨rfl, rfl⟩
      go_wp2_with fail
      go_meet
      exact ⟨by unfold Hid; rw [HK.out]; rfl, rfl⟩
    | true =>
      rw [e1] at C1 HK
      clear e1
      cases e2 : sidB l.kw with
      | false =>
        rw [e2] at C2 HK
        clear e2
        go_wp2_with fail
        refine (C1.out _).mono ?_
        rintro e w' ⟨rfl, rfl⟩
        go_wp2_with fail
        refine (C2.out _).mono ?_
        rintro e w' ⟨rfl, rfl⟩
        go_wp2_with fail
        go_meet
        exact ⟨by unfold Hid; rw [HK.out]; rfl, rfl⟩
      | true =>
        rw [e2] at C2 HK
        clear e2
        generalize sidB l.stride = z at *
        go_wp2_with fail
        refine (C1.out _).mono ?_
        rintro e w' ⟨rfl, rfl⟩
        go_wp2_with fail
        refine (C2.out _).mono ?_
        rintro e w' ⟨rfl, rfl⟩
        go_wp2_with fail
        refine (C3.out _).mono ?_
        rintro e w' ⟨rfl, rfl⟩
        go_wp2_with fail
        go_meet
        exact ⟨by unfold Hid; rw [HK.out]; rfl, rfl⟩

  case rest =>
    obtain ⟨hs, hwx⟩ := hcut
    have e1 := hs.out
    have e2 := hwx.out
    clear hs hwx
    subst e1
    subst e2
    go_upto_region 2 with fail
    go_cut [6] (fun s6 wx => Hid (.bool (noneL l) = s6) ∧ Hid (W = wx))
    case first =>
      have HK : Hid (noneL l = (((l.weights.length : Int) == 0) && ((l.bias.length : Int) == 0))) := rfl
      cases f0 : ((l.weights.length : Int) == 0) with
      | false =>
        go_wp2_with fail
        go_meet
        exact ⟨by unfold Hid; rw [HK.out, f0]; rfl, rfl⟩
      | true =>
        cases f1 : ((l.bias.length : Int) == 0) with
        | false =>
          go_wp2_with fail
          go_meet
          exact ⟨by unfold Hid; rw [HK.out, f0, f1]; rfl, rfl⟩
        | true =>
          go_wp2_with fail
          go_meet
          exact ⟨by unfold Hid; rw [HK.out, f0, f1]; rfl, rfl⟩
    case rest =>
      obtain ⟨hs, hwx⟩ := hcut
      have e1 := hs.out
      have e2 := hwx.out
      clear hs hwx
      subst e1
      subst e2
      go_upto_region 3 with fail
      go_cut [7] (fun s7 wx => Hid (.bool (flatB l) = s7) ∧ Hid (W = wx))
      case first =>
        have HK : Hid (flatB l = ((l.kh == 0) && ((l.kw == 0) && ((l.stride == 0) && (l.pad == 0))))) := rfl
        cases f0 : (l.kh == 0) with
        | false =>
          go_wp2_with fail
          go_meet
          exact ⟨by unfold Hid; rw [HK.out, f0]; rfl, rfl⟩
        | true =>
          cases f1 : (l.kw == 0) with
          | false =>
            go_wp2_with fail
            go_meet
            exact ⟨by unfold Hid; rw [HK.out, f0, f1]; rfl, rfl⟩
          | true =>
            cases f2 : (l.stride == 0) with
            | false =>
              go_wp2_with fail
              go_meet
              exact ⟨by unfold Hid; rw [HK.out, f0, f1, f2]; rfl, rfl⟩
            | true =>
              cases f3 : (l.pad == 0) with
              | false =>
                go_wp2_with fail
                go_meet
                exact ⟨by unfold Hid; rw [HK.out, f0, f1, f2, f3]; rfl, rfl⟩
              | true =>
                go_wp2_with fail
                go_meet
                exact ⟨by unfold Hid; rw [HK.out, f0, f1, f2, f3]; rfl, rfl⟩
      case rest =>
        obtain ⟨hs, hwx⟩ := hcut
        have e1 := hs.out
        have e2 := hwx.out
        clear hs hwx
        subst e1
        subst e2
        go_upto_region 4 with fail
        obtain ⟨K, hK⟩ : ∃ K, kerB l = K := ⟨_, rfl⟩
        have HKe := Lib.hid hK
        rw [hK] at HRd ⊢
        clear hK
        generalize noneL l = NB at *
        generalize flatB l = FB at *
        have CA := Lib.hid (r12Canonical c1 (R1.out.below HB.out) HLe.out.wts)
        cases h1 : l.weights.all validR with
        | false =>
          have HF : Hid (RR = false) := by unfold Hid; rw [← HRd.out, h1]; rfl
          rw [h1] at CA
          clear h1
          go_wp2_with fail
          refine CA.out.mono ?_
          rintro e w1 ⟨rfl, hb1⟩
          have HB1 := Lib.hid (HB.out.trans (hb1.mono HB.out.size))
          clear hb1 x0 x1 x2 x3 x4 x5 x6 x7 x8
          go_wp2
          go_ret
          exact ⟨ret_bool HF.out.symm, HB1.out⟩
        | true =>
          rw [h1] at CA
          have HE1 := Lib.hid h1
          clear h1
          go_wp2_with fail
          refine CA.out.mono ?_
          rintro e w1 ⟨rfl, hb1⟩
          have HB1 := Lib.hid (HB.out.trans (hb1.mono HB.out.size))
          have HX1 := Lib.hid (HX.out.below hb1)
          clear hb1 x0 x1 x2 x3 x4 x5 x6 x7 x8 xlt CA
          obtain ⟨x0, x1, x2, x3, x4, x5, x6, x7, x8, xlt⟩ := HX1.out
          have CB := Lib.hid (r12Canonical c2 (R2.out.below HB1.out) HLe.out.bias)
          cases h2 : l.bias.all validR with
          | false =>
            have HF : Hid (RR = false) := by unfold Hid; rw [← HRd.out, HE1.out, h2]; rfl
            rw [h2] at CB
            clear h2
            go_wp2_with fail
            refine CB.out.mono ?_
            rintro e w2 ⟨rfl, hb2⟩
            have HB2 := Lib.hid (HB1.out.trans (hb2.mono HB1.out.size))
            clear hb2 x0 x1 x2 x3 x4 x5 x6 x7 x8
            go_wp2
            go_ret
            exact ⟨ret_bool HF.out.symm, HB2.out⟩
          | true =>
            rw [h2] at CB
            have HE2 := Lib.hid h2
            clear h2
            go_wp2_with fail
            refine CB.out.mono ?_
            rintro e w2 ⟨rfl, hb2⟩
            have HB2 := Lib.hid (HB1.out.trans (hb2.mono HB1.out.size))
            have HX2 := Lib.hid (HX1.out.below hb2)
            clear hb2 x0 x1 x2 x3 x4 x5 x6 x7 x8 xlt CB
            obtain ⟨x0, x1, x2, x3, x4, x5, x6, x7, x8, xlt⟩ := HX2.out
            have hk := HKD.out
            have HRk : Hid ((FB && (wthn l.frm (-1) (i - 1) && ((l.out == 0) && NB))) = RR) := by
              have h := HRd.out
              rw [HE1.out, HE2.out, Bool.true_and, Bool.true_and, if_neg (by omega), if_neg (by omega), if_neg (by omega), if_neg (by omega), if_pos (by omega)] at h
              exact h
            have k1 : (l.kind == 1) = false := by rw [beq_eq_false_iff_ne]; omega
            have k2 : (l.kind == 2) = false := by rw [beq_eq_false_iff_ne]; omega
            have k3 : (l.kind == 3) = false := by rw [beq_eq_false_iff_ne]; omega
            have k4 : (l.kind == 4) = false := by rw [beq_eq_false_iff_ne]; omega
            have k5 : (l.kind == 5) = false := by rw [beq_eq_false_iff_ne]; omega
            have k6 : (l.kind == 6) = false := by rw [beq_eq_false_iff_ne]; omega
            have k7 : (l.kind == 7) = true := by rw [beq_iff_eq]; omega
            clear hk
            cases FB with
            | false =>
              have HR : Hid (RR = false) := by unfold Hid; rw [← HRk.out]; rfl
              go_wp2
              go_ret
              exact ⟨ret_bool HR.out.symm, HB2.out⟩
            | true =>
              have HW1 := Lib.hid (fun W => r12Within l.frm (-1) (i - 1) W)
              cases g1 : wthn l.frm (-1) (i - 1) with
              | false =>
                have HG1 := Lib.hid g1
                rw [g1] at HW1
                clear g1
                have HR : Hid (RR = false) := by unfold Hid; rw [← HRk.out, HG1.out]; rfl
                go_wp2_with fail
                refine (HW1.out _).mono ?_
                rintro e w' ⟨rfl, rfl⟩
                go_wp2
                go_ret
                exact ⟨ret_bool HR.out.symm, HB2.out⟩
              | true =>
                have HG1 := Lib.hid g1
                rw [g1] at HW1
                clear g1
                cases g2 : (l.out == 0) with
                | false =>
                  have HR : Hid (RR = false) := by unfold Hid; rw [← HRk.out, HG1.out, g2]; rfl
                  go_wp2_with fail
                  refine (HW1.out _).mono ?_
                  rintro e w' ⟨rfl, rfl⟩
                  go_wp2
                  go_ret
                  exact ⟨ret_bool HR.out.symm, HB2.out⟩
                | true =>
                  cases NB with
                  | false =>
                    have HR : Hid (RR = false) := by unfold Hid; rw [← HRk.out, HG1.out, g2]; rfl
                    go_wp2_with fail
                    refine (HW1.out _).mono ?_
                    rintro e w' ⟨rfl, rfl⟩
                    go_wp2
                    go_ret
                    exact ⟨ret_bool HR.out.symm, HB2.out⟩
                  | true =>
                    have HR : Hid (RR = true) := by unfold Hid; rw [← HRk.out, HG1.out, g2]; rfl
                    go_wp2_with fail
                    refine (HW1.out _).mono ?_
                    rintro e w' ⟨rfl, rfl⟩
                    go_wp2
                    go_ret
                    exact ⟨ret_bool HR.out.symm, HB2.out⟩

end Go.Proofs.Ythlmgejikbmmaaa

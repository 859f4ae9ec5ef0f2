/-
  Contracts of the functions that the statement reaches: ModV, EvO, PvG, PvH, LwC, LwD, ModAp, LwF, LwG, LwH, LwJ, LwM, LwO.
-/
import Derived.Test.YtoppijdedkdjeaaGreatG41
import Derived.Test.YtoppijdedkdjeaaGreatG32
set_option linter.unusedVariables false
set_option linter.unusedSimpArgs false
set_option linter.constructorNameAsVariable false
set_option linter.deprecated false
set_option maxRecDepth 100000
set_option maxHeartbeats 3200000
namespace Go.Proofs.YtoppijdedkdjeaaGreat
open Go.RowKit
open Go.Lib (hid)
theorem S11_keep {W w1 : World} {p bl o : Nat} {q0 q1 p0 p1 p2 p3 p4 p5 p6 p7 p8 : Value} (hh : Box2 W p q0 q1) (hbl : bl < W.heap.size)
  (hc : W.cell? ⟨bl, o, none⟩ = some p0 /\ W.cell? ⟨bl, o + 1, none⟩ = some p1 /\ W.cell? ⟨bl, o + 2, none⟩ = some p2 /\ W.cell? ⟨bl, o + 3, none⟩ = some p3 /\ W.cell? ⟨bl, o + 4, none⟩ = some p4 /\ W.cell? ⟨bl, o + 5, none⟩ = some p5 /\ W.cell? ⟨bl, o + 6, none⟩ = some p6 /\ W.cell? ⟨bl, o + 7, none⟩ = some p7 /\ W.cell? ⟨bl, o + 8, none⟩ = some p8) (hb : Below W.heap.size W w1) :
  w1.cell? ⟨p, 0, none⟩ = some q0 /\ w1.cell? ⟨p, 1, none⟩ = some q1 /\ w1.cell? ⟨bl, o, none⟩ = some p0 /\ w1.cell? ⟨bl, o + 1, none⟩ = some p1 /\ w1.cell? ⟨bl, o + 2, none⟩ = some p2 /\ w1.cell? ⟨bl, o + 3, none⟩ = some p3 /\ w1.cell? ⟨bl, o + 4, none⟩ = some p4 /\ w1.cell? ⟨bl, o + 5, none⟩ = some p5 /\ w1.cell? ⟨bl, o + 6, none⟩ = some p6 /\ w1.cell? ⟨bl, o + 7, none⟩ = some p7 /\ w1.cell? ⟨bl, o + 8, none⟩ = some p8 := by
 obtain ⟨h0, h1, h2, h3, h4, h5, h6, h7, h8⟩ := hc
 exact ⟨(hb.cell hh.lt).trans hh.c0, (hb.cell hh.lt).trans hh.c1, (hb.cell hbl).trans h0, (hb.cell hbl).trans h1, (hb.cell hbl).trans h2, (hb.cell hbl).trans h3, (hb.cell hbl).trans h4, (hb.cell hbl).trans h5, (hb.cell hbl).trans h6, (hb.cell hbl).trans h7, (hb.cell hbl).trans h8⟩
theorem r13Of {w : World} {m : ModL} {a1 a2 : Option Addr} (c1 c2 : Nat) (h1 : Ints w Any a1 m.input) (h2 : LaysAt w a2 m.layers) (hr : ∀ l ∈ m.layers, LayRange l) (hs : ∀ l ∈ m.layers, LayLe l) :
  Calls Tryz.prog 29 #[.agg #[.slice a1 m.input.length c1, .slice a2 m.layers.length c2]] w (OfPost w (shapesL m)) := by
 have q1 := h1.len
 have q2 := h2.len
 have H1 := hid h1
 have H2 := hid h2
 have HRg := hid hr
 have HSh := hid hs
 generalize hR : shapesL m = RR
 have HR := hid hR
 unfold shapesL at hR
 have HRd := hid hR
 clear h1 h2 hr hs hR
 go_enter Tryz.func29, Tryz.ntmps29
 go_upto_region 1 with fail
 have hb0 : Below w.heap.size w (w.alloc (.cells #[.slice a1 m.input.length c1, .slice a2 m.layers.length c2] 25)) := (Below.refl _ _).alloc (Nat.le_refl _) _
 have hx := Box2.alloc w (.slice a1 m.input.length c1) (.slice a2 m.layers.length c2) 25
 generalize w.alloc (.cells #[.slice a1 m.input.length c1, .slice a2 m.layers.length c2] 25) = W at *
 have HB0 := hid hb0
 have HX := hid hx
 obtain ⟨x0, x1, xf, xlt⟩ := hx
 clear hb0
 go_wp2_with fail
 refine (r12Valid c1 c2 (H1.out.below HB0.out) (H2.out.below HB0.out) HRg.out HSh.out).mono ?_
 rintro e w1 ⟨rfl, hb1⟩
 have HX1 := hid (HX.out.below hb1)
 have HB1 := hid (HB0.out.trans (hb1.mono HB0.out.size))
 clear hb1 x0 x1 xf xlt
 cases hvm : validM m with
 | false =>
  have HF : Hid (RR = ([], 0, 1)) := by unfold Hid; rw [<- HRd.out, hvm]; rfl
  clear hvm
  go_wp2
  refine bodyPost_ret (results_tmp3 rfl _ _ _) rfl ?_
  exact ofPost_err HF.out HB1.out
 | true =>
  have HRe : Hid (shapesFrom m.input [] m.layers = RR) := by have := HRd.out; rw [hvm, if_pos rfl] at this; exact this
  have hv := validM_at hvm
  have HL64 := hid hv.2.1
  have hl64 := hv.2.1
  have HVI := hid hv.1
  have HAt := hid hv.2.2
  obtain ⟨x0, x1, xf, xlt⟩ := HX1.out
  clear hvm hv
  go_wp2
  clear x0 x1 xf xlt
  go_loopw [5, 6] (fun u i wr => ∃ (j : Nat) (xs : List Value) (T : List (List Int)), j <= m.layers.length /\ i = .int .i64 (j : Int) /\ Hid (T.length = j) /\ Hid (shapesFrom m.input T (m.layers.drop j) = RR) /\ Hid (T.all validL = true) /\ Hid (OwnSS wr w1.heap.size 22 u xs T) /\ Hid (Below w1.heap.size w1 wr)) (fun _ i _ => m.layers.length - (intOf i).toNat)
  case atStart => exact ⟨0, [], [], Nat.zero_le _, rfl, rfl, HRe.out, rfl, OwnSS.nil _ _ _, Below.refl _ _⟩
  case round =>
   obtain ⟨j, xs, T, hj, rfl, HTl, HS, HTv, HOw, HB⟩ := hrel
   have hbw := HB1.out.trans (HB.out.mono HB1.out.size)
   obtain ⟨av, cv, hu, hT⟩ := HOw.out.intss (by rw [HTl.out]; omega)
   rw [HTl.out] at hu
   subst hu
   by_cases hlt : j < m.layers.length
   ·obtain ⟨x0, x1, xf, xlt⟩ := HX1.out.below HB.out
    obtain ⟨bl, ol, l, rfl, hbl, hl, b1, b2, d1, d2, ⟨l0, l1, l2, l3, l4, l5, l6, l7, l8⟩, r1, r2⟩ := (H2.out.below hbw).pick hlt
    have hmem := List.mem_of_getElem? hl
    have hdrop : m.layers.drop j = l :: m.layers.drop (j + 1) := by
     rw [List.drop_eq_getElem_cons hlt]
     congr 1
     rw [List.getElem?_eq_getElem hlt] at hl
     exact Option.some.inj hl
    have HStep : Hid ((if (outSL m.input T l).2 = 0 then shapesFrom m.input (T ++ [(outSL m.input T l).1]) (m.layers.drop (j + 1)) else ([], (j : Int), (outSL m.input T l).2)) = RR) := by
     have := HS.out
     rw [hdrop, shapesFrom_cons, HTl.out] at this
     exact this
    have HO := hid (fun W (hb : Below wr.heap.size wr W) => r13Out (w := W) (u := .agg #[.int .i64 l.kind, .int .i64 l.frm, .int .i64 l.out, .int .i64 l.kh, .int .i64 l.kw, .int .i64 l.stride, .int .i64 l.pad, .slice b1 l.weights.length d1, .slice b2 l.bias.length d2]) c1 cv (H1.out.below (hbw.trans (hb.mono hbw.size))) ((hT.mono (F' := Any) (fun _ _ _ => trivial)).below hb) ⟨b1, b2, d1, d2, rfl, r1.below hb, r2.below hb⟩ (HRg.out l hmem) (HSh.out l hmem) (by rw [HTl.out]; omega))
    have hlay := HAt.out j l hl
    have HSev : Hid ((outSL m.input T l).2 ≠ 0 -> (outSL m.input T l).2 = 7) := fun h => outSL_seven HVI.out (by rw [HTl.out]; omega) (by rw [HTl.out]; exact hlay) HTv.out h
    have HVal : Hid ((outSL m.input T l).2 = 0 -> validL (outSL m.input T l).1 = true) := fun h => outSL_valid h
    have p1 := r1.len
    have p2 := r2.len
    have HLy : Hid (LayAt wr bl (ol + j * 9) l /\ bl < wr.heap.size /\ Box2 wr w.heap.size (.slice a1 m.input.length c1) (.slice (some ⟨bl, ol, none⟩) m.layers.length c2)) := ⟨⟨b1, b2, d1, d2, ⟨l0, l1, l2, l3, l4, l5, l6, l7, l8⟩, r1, r2⟩, hbl, HX1.out.below HB.out⟩
    have HCe : Hid (wr.cell? ⟨bl, ol + j * 9, none⟩ = some (.int .i64 l.kind) /\ wr.cell? ⟨bl, ol + j * 9 + 1, none⟩ = some (.int .i64 l.frm) /\ wr.cell? ⟨bl, ol + j * 9 + 2, none⟩ = some (.int .i64 l.out) /\ wr.cell? ⟨bl, ol + j * 9 + 3, none⟩ = some (.int .i64 l.kh) /\ wr.cell? ⟨bl, ol + j * 9 + 4, none⟩ = some (.int .i64 l.kw) /\ wr.cell? ⟨bl, ol + j * 9 + 5, none⟩ = some (.int .i64 l.stride) /\ wr.cell? ⟨bl, ol + j * 9 + 6, none⟩ = some (.int .i64 l.pad) /\ wr.cell? ⟨bl, ol + j * 9 + 7, none⟩ = some (.slice b1 l.weights.length d1) /\ wr.cell? ⟨bl, ol + j * 9 + 8, none⟩ = some (.slice b2 l.bias.length d2)) := ⟨l0, l1, l2, l3, l4, l5, l6, l7, l8⟩
    rw [HTl.out] at HO
    have HO2 := hid (fun W (hb : Below wr.heap.size wr W) => (HO.out W hb).mono fun e w' (h : OutPost W (outSL m.input T l) e w') => (⟨h, hb.trans (h.2.mono hb.size)⟩ : OutPost W (outSL m.input T l) e w' /\ Below wr.heap.size wr w'))
    have xbl : Below wr.heap.size wr wr.drew := (Below.refl _ _).drew
    have hli : (0 : Int) <= (j : Int) := by omega
    have hli2 : (j : Int) < (m.layers.length : Int) := by omega
    generalize outSL m.input T l = P at *
    obtain ⟨o, er⟩ := P
    simp only at HStep HSev HVal
    have hjm : j * 9 = j * 9 := rfl
    clear hmem hl hdrop hbw hT r1 r2 HS hlay HO l0 l1 l2 l3 l4 l5 l6 l7 l8 hjm
    go_upto_region 7 with fail
    clear x0 x1 xf xlt
    go_region_held3 (fun w' => w'.cell? ⟨w.heap.size, 0, none⟩ = some (.slice a1 m.input.length c1) /\ w'.cell? ⟨w.heap.size, 1, none⟩ = some (.slice (some ⟨bl, ol, none⟩) m.layers.length c2) /\ w'.cell? ⟨bl, ol + j * 9, none⟩ = some (.int .i64 l.kind) /\ w'.cell? ⟨bl, ol + j * 9 + 1, none⟩ = some (.int .i64 l.frm) /\ w'.cell? ⟨bl, ol + j * 9 + 2, none⟩ = some (.int .i64 l.out) /\ w'.cell? ⟨bl, ol + j * 9 + 3, none⟩ = some (.int .i64 l.kh) /\ w'.cell? ⟨bl, ol + j * 9 + 4, none⟩ = some (.int .i64 l.kw) /\ w'.cell? ⟨bl, ol + j * 9 + 5, none⟩ = some (.int .i64 l.stride) /\ w'.cell? ⟨bl, ol + j * 9 + 6, none⟩ = some (.int .i64 l.pad) /\ w'.cell? ⟨bl, ol + j * 9 + 7, none⟩ = some (.slice b1 l.weights.length d1) /\ w'.cell? ⟨bl, ol + j * 9 + 8, none⟩ = some (.slice b2 l.bias.length d2))
     (first | exact S11_keep HLy.out.2.2 HLy.out.2.1 HCe.out (by assumption))
     (first
      | (go_at_call 54; refine (HO2.out _ ?hb).mono ?_
         case hb => assumption
         rintro e w2 ⟨⟨⟨a5, c5, rfl, hI5, hc5⟩, hb9⟩, p3⟩))
    all_goals
    have hb2 : Below wr.heap.size wr w2 := p3
    have HB2 := hid (HB.out.trans (hb2.mono HB.out.size))
    have HOw2 := hid (HOw.out.frame hb2)
    have HI5 := hid hI5
    have HC5 := hid hc5
    have HLt : Hid (∀ b, (Value.slice av j cv).ownBlock = some b -> b < wr.heap.size) := fun b hb => HOw.out.lt b hb
    have hgeV : Hid (w1.heap.size <= wr.heap.size) := HB.out.size
    have HX2 := hid (HX1.out.below HB2.out)
    clear hI5 hc5 hb2 p3 hb9 HO2 xbl HLy HCe
    by_cases he : er = 0
    ·have HStep2 : Hid (shapesFrom m.input (T ++ [o]) (m.layers.drop (j + 1)) = RR) := by have := HStep.out; rw [if_pos he] at this; exact this
     have t1 : (er != 0) = false := by rw [he]; rfl
     have t2 : (er == 0) = true := by rw [he]; rfl
     have t3 : decide (¬ er = 0) = false := by simp [he]
     have HTj := hid (show j < 64 by omega)
     have HV2 := hid (HVal.out he)
     clear he
     go_wp2_with (at_builtin; refine wpList_app1 rfl (.tmp 34) (.tmp 36) 59 rfl w1.heap.size 22 (.slice none 0 0) 24 Tryz.underlying59 (by kernel_rfl) rfl (.slice av j cv) j xs rfl (by have h := HOw2.out.own; rw [HTl.out] at h; exact h) (.slice a5 o.length c5) rfl rfl (by have := HTj.out; omega) (by have := HTj.out; unfold maxLen; omega) (by exact HB2.out.size) ?_; intro v' w' hown hg hn2; have HOwn := hid hown; have HG := hid hg; have HN2 := hid hn2; clear hown hg hn2)
     have happ := HOw2.out.app (l := o) HI5.out HC5.out (fun b hb => ⟨Nat.le_trans hgeV.out hb, fun e => by have := HLt.out b e; have h2 : wr.heap.size <= b := hb; omega⟩) (by rw [HTl.out]; exact HOwn.out) HG.out HN2.out
     have HApp := hid happ
     have HB3 := hid (HB2.out.grown HG.out HB2.out.size (fun k hk => (HOw2.out.own.lt k hk).1))
     clear happ
     go_roundw
     case rel => exact ⟨j + 1, _, T ++ [o], hlt, by go_num, by unfold Hid; rw [List.length_append, HTl.out]; rfl, HStep2.out, by unfold Hid; rw [List.all_append, HTv.out, List.all_cons, List.all_nil, HV2.out]; rfl, HApp.out, HB3.out⟩
     case measure => simp [intOf]; omega
    ·have HF : Hid (RR = ([], (j : Int), 7)) := by unfold Hid; rw [<- HStep.out, if_neg he, HSev.out he]
     have t1 : (er != 0) = true := by rw [bne_iff_ne]; exact he
     have t2 : (er == 0) = false := by rw [beq_eq_false_iff_ne]; exact he
     have t3 : decide (¬ er = 0) = true := by simp [he]
     clear he
     go_wp2
     refine bodyPost_ret (results_tmp3 rfl _ _ _) rfl ?_
     exact ofPost_err HF.out (HB1.out.trans (HB2.out.mono HB1.out.size))
   ·obtain rfl : j = m.layers.length := by omega
    have HF : Hid (RR = (T, 0, 0)) := by
     have h := HS.out
     rw [List.drop_length] at h
     exact h.symm
    have HT := hid hT
    have HBw := hid hbw
    obtain ⟨x0, x1, xf, xlt⟩ := HX1.out.below HB.out
    clear hT hbw
    go_wp2
    refine bodyPost_ret (results_tmp3 rfl _ _ _) rfl ?_
    rw [HF.out]
    exact ⟨⟨av, cv, by simp only [HTl.out]; rfl, HT.out.mono (fun b _ hb => Nat.le_trans HB1.out.size hb)⟩, HBw.out⟩
theorem results_tmp2 {fn : Func} {t u : Tmp} (h : fn.results = #[.tmp t, .tmp u]) (tmps : Array Value) (P : Program) (w : World) :
  (results fn tmps).run P w = .ok (.tuple #[tmps.getD t undef, tmps.getD u undef]) w := by
 simp [results, h]
theorem StepV.isZ_cells (s : StepV) : ∀ u ∈ s.cells, isZ u = true := by
 intro u hu
 simp [StepV.cells] at hu
 rcases hu with rfl | rfl | rfl | rfl | rfl | rfl | rfl | rfl | rfl | rfl | rfl | rfl | rfl <;> rfl
theorem TrSt.start {w1 : World} (s : StepV) {ac : Option Addr} {X : List RatL} (hX : RatsAt w1 ac X) (T : Nat) : TrSt w1 (w1.alloc (.cells s.cells T)) w1.heap.size (.slice none 0 0) [] s.fn ac X := by
 have hb := SBox.alloc w1 s T
 obtain ⟨f0, f1, f2, f3, f4, f5, f6, f7, f8, f9, f10, f11, f12, ff, lt⟩ := hb
 have hal : Below w1.heap.size w1 (w1.alloc (.cells s.cells T)) := (Below.refl _ _).alloc (Nat.le_refl _) _
 exact ⟨⟨all13 f0 f1 f2 f3 f4 f5 f6 f7 f8 f9 f10 f11 f12, ff, lt⟩, AllB.of_heap (heap_alloc_new w1 _) s.isZ_cells, OwnRR.nil _ _, hX.below hal, hal⟩
theorem TrSt.grow {w1 wr w' : World} {g : Nat} {v v' : Value} {Y Y' : List (List RatL)} {f : Nat -> Value} {ac ac' : Option Addr} {X X' : List RatL} (h : TrSt w1 wr g v Y f ac X) (hb : Below (g + 1) wr w') (ho : OwnRR w' (g + 1) v' Y') (hc : RatsAt w' ac' X') : TrSt w1 w' g v' Y' f ac' X' :=
 ⟨⟨fun i hi => (hb.cell (p := ⟨g, i, none⟩) (Nat.lt_succ_self g)).trans (h.box.c i hi), fun i => (hb.frozen (p := ⟨g, i, none⟩) (Nat.lt_succ_self g)).trans (h.box.free i), Nat.lt_of_lt_of_le h.box.lt hb.size⟩, h.ai.belowB hb (Nat.lt_succ_self g), ho, hc, h.bl.trans (hb.mono (Nat.le_succ g))⟩
structure StpI (w1 : World) (S : StepV) (sh : List Int) (nx ni : Nat) (ax : Option Addr) : Prop where
 nS : sh.length = S.nS
 sh : Ints w1 Any S.aS sh
 nx : nx = S.nx
 ai : S.ai = ax
 ni : ni = S.ni
theorem evTrace {w : World} {m : ModL} {a1 a2 ax : Option Addr} {x : List Rat} {D B : Nat} (c1 c2 cx : Nat) (h1 : Ints w Any a1 m.input) (h2 : LaysAt w a2 m.layers) (hr : ∀ l ∈ m.layers, LayRange l) (hs : ∀ l ∈ m.layers, LayLe l)
  (hX : RatsAt w ax (x.map ratL)) (hsm : ∀ l ∈ m.layers, SmallL l) (hxB : BdL D B x) (hD : 0 < D) (hB : 1 <= B) (hl12 : m.layers.length <= 12) (hroom : RoomK 12 D B) :
  Calls Tryz.prog 13 #[.agg #[.slice a1 m.input.length c1, .slice a2 m.layers.length c2], .slice ax x.length cx] w (TrPost w (traceL m x)) := by
 have q1 := h1.len
 have q2 := h2.len
 have q3 := hX.len
 rw [List.length_map] at q3
 have H1 := hid h1
 have H2 := hid h2
 have HX0 := hid hX
 have HRg := hid hr
 have HSh := hid hs
 have HSm := hid hsm
 have HxB := hid hxB
 have HRoom := hid hroom
 generalize hR : traceL m x = RR
 unfold traceL at hR
 have HRd := hid hR
 clear h1 h2 hr hs hR hX hsm hxB hroom
 go_enter Tryz.func13, Tryz.ntmps13
 go_upto_region 1 with fail
 have hb0 : Below w.heap.size w (w.alloc (.cells #[.slice a1 m.input.length c1, .slice a2 m.layers.length c2] 25)) := (Below.refl _ _).alloc (Nat.le_refl _) _
 have hx := Box2.alloc w (.slice a1 m.input.length c1) (.slice a2 m.layers.length c2) 25
 generalize w.alloc (.cells #[.slice a1 m.input.length c1, .slice a2 m.layers.length c2] 25) = W at *
 have HB0 := hid hb0
 have HX := hid hx
 obtain ⟨x0, x1, xf, xlt⟩ := hx
 clear hb0
 go_wp2_with fail
 refine (sOf c1 c2 (H1.out.below HB0.out) (H2.out.below HB0.out) HRg.out HSh.out).mono ?_
 rintro e w1 ⟨⟨aS, cS, rfl, hI⟩, hb1⟩
 have HX1 := hid (HX.out.below hb1)
 have HB1 := hid (HB0.out.trans (hb1.mono HB0.out.size))
 clear hb1 x0 x1 xf xlt
 by_cases he : (shapesL m).2.2 = 0
 ·rcases shapesL_cases m with ⟨_, k⟩ | ⟨hvm, ⟨T, hch, hT⟩ | ⟨k, _⟩⟩
  ·rw [k] at he; simp at he
  ·rw [hT] at hI ⊢
   rw [if_pos he] at HRd
   simp only at hI ⊢
   have HI := hid hI
   have HCh := hid hch
   have hTl : T.length = m.layers.length := hch.1
   have HSz := hid (tSize c1 (H1.out.below HB1.out))
   obtain ⟨x0, x1, xf, xlt⟩ := HX1.out
   clear he hI hch hT hvm
   by_cases hsz : (x.length : Int) = sizeL m.input
   ·rw [if_pos hsz] at HRd
    have HSe0 := hid hsz
    generalize hnn : sizeL m.input = n at HSz hsz
    clear hnn
    have t1 : ((x.length : Int) != n) = false := by rw [hsz]; simp
    have t2 : decide (¬ (x.length : Int) = n) = false := by simp [hsz]
    clear hsz
    go_wp2_with fail
    refine HSz.out.mono ?_
    rintro e w2 ⟨rfl, rfl⟩
    have HTr : Hid (TrI m.input x [] [] D B) := ⟨rfl, by simp, HSe0.out, hD, hB, HxB.out, by simp⟩
    go_upto_region 8 with fail
    obtain ⟨S0, hS0⟩ : ∃ S0 : StepV, S0 = ⟨0, 0, 0, 0, 0, 0, 0, none, 0, 0, none, 0, 0, a1, m.input.length, c1, ax, x.length, cx, ax, x.length, cx, none, 0, 0⟩ := ⟨_, rfl⟩
    have hst := TrSt.start (w1 := w1) S0 (HX0.out.below HB1.out) 70
    rw [show S0.cells = #[.int .i64 0, .int .i64 0, .int .i64 0, .int .i64 0, .int .i64 0, .int .i64 0, .int .i64 0, .slice none 0 0, .slice none 0 0, .slice a1 m.input.length c1, .slice ax x.length cx, .slice ax x.length cx, .slice none 0 0] by rw [hS0]; rfl] at hst
    have HSt := hid hst
    have HS0 := hid hS0
    have HSI : Hid (StpI w1 S0 m.input x.length x.length ax) := by
     unfold Hid
     rw [hS0]
     exact ⟨rfl, (H1.out.below HB1.out).mono (fun _ _ _ => trivial), rfl, rfl, rfl⟩
    have hsa : S0.ax = ax := by rw [hS0]
    have HSa := hid hsa
    have hx1 := HX1.out.below hst.bl
    clear hst hS0 hsa x0 x1 xf xlt
    generalize w1.alloc (.cells #[.int .i64 0, .int .i64 0, .int .i64 0, .int .i64 0, .int .i64 0, .int .i64 0, .int .i64 0, .slice none 0 0, .slice none 0 0, .slice a1 m.input.length c1, .slice ax x.length cx, .slice ax x.length cx, .slice none 0 0] 70) = W2 at *
    obtain ⟨x0, x1, xf, xlt⟩ := hx1
    go_wp2
    clear x0 x1 xf xlt
    go_loopw [9, 36] (fun v i wr => ∃ (j : Nat) (a : Option Addr) (c : Nat) (Y : List (List Rat)) (D' B' : Nat) (S : StepV), j <= m.layers.length /\ v = .slice a j c /\ i = .int .i64 (j : Int) /\ Hid (TrSt w1 wr w1.heap.size (.slice a j c) (Y.map (fun y => y.map ratL)) S.fn S.ax ((currQ x Y).map ratL)) /\
     Hid (StpI w1 S (currL m.input (T.take j)) (currQ x Y).length x.length ax) /\ Hid (Y.length = j) /\
     Hid (TrI m.input x (T.take j) Y D' B') /\ Hid (RoomK (12 - j) D' B') /\ Hid (traceFrom m.input x (T.take j) Y (m.layers.drop j) = traceQ m x)) (fun _ i _ => m.layers.length - (intOf i).toNat)
    case atStart => exact ⟨0, none, 0, [], D, B, S0, Nat.zero_le _, rfl, rfl, by rw [HSa.out]; exact HSt.out, HSI.out, rfl, HTr.out, HRoom.out, rfl⟩
    case round =>
     obtain ⟨j, av, cv, Y, D', B', S, hj, rfl, rfl, HTS, HStp, HYl, HTrI, HRm, HTq⟩ := hrel
     clear HSt HSI HSa HS0
     have HB : Hid (Below w1.heap.size w1 wr) := HTS.out.bl
     by_cases hlt : j < m.layers.length
     ·have hbw := HB1.out.trans (HB.out.mono HB1.out.size)
      obtain ⟨bl, ol, l, ha2, hbl, hl, b1, b2, d1, d2, ⟨l0, l1, l2, l3, l4, l5, l6, l7, l8⟩, r1, r2⟩ := H2.out.pick hlt
      have hmem := List.mem_of_getElem? hl
      have hTj : T[j]? = some (T[j]'(by omega)) := List.getElem?_eq_getElem _
      have hout := HCh.out.2 j _ l hTj hl
      rw [List.nil_append] at hout
      have hdrop : m.layers.drop j = l :: m.layers.drop (j + 1) := by
       rw [List.drop_eq_getElem_cons hlt]
       congr 1
       rw [List.getElem?_eq_getElem hlt] at hl
       exact Option.some.inj hl
      have hq := HTq.out
      rw [hdrop] at hq
      have hq2 : traceFrom m.input x (T.take (j + 1)) (Y ++ [layQ l (currL m.input (T.take j)) (currQ x Y) (fromQ x Y l.frm)]) (m.layers.drop (j + 1)) = traceQ m x := by
       rw [<- hq]
       show _ = traceFrom m.input x (T.take j ++ [(outSL m.input (T.take j) l).1]) _ _
       rw [hout, List.take_add_one, hTj]
       rfl
      have hf0 : (outSL m.input (T.take j) l).2 = 0 := by rw [hout]
      obtain ⟨hfit, hnum, h7⟩ := fit_of hf0
      obtain ⟨hcx, hcB⟩ := HTrI.out.curr
      have hvc : validL (currL m.input (T.take j)) = true := by
       cases hv : validL (currL m.input (T.take j)) with
       | true => rfl
       | false =>
        exfalso
        have hb := (outSL_cases m.input (T.take j) l)
        unfold currL at hv
        rcases hb with ⟨k, _, _⟩ | ⟨k, _⟩
        ·omega
        ·simp only [Bool.and_eq_true] at k
         cases hg : (T.take j).getLast? with
         | none => rw [hg] at hv; simp only [Option.getD_none] at hv; rw [k.1.1] at hv; cases hv
         | some z =>
          rw [hg] at hv
          simp only [Option.getD_some] at hv
          have := List.all_eq_true.1 k.2 z (List.mem_of_getLast? hg)
          rw [this] at hv
          cases hv
      obtain ⟨kk, k1, k2, k3⟩ := HTrI.out.step hf0 (HSm.out l hmem) hvc
      rw [hout, show T.take j ++ [T[j]'(by omega)] = T.take (j + 1) by rw [List.take_add_one, hTj]; rfl] at k3
      have hsz2 := validL_size hvc
      have hlen7 : l.kind = 7 -> (currQ x Y).length <= (fromQ x Y l.frm).length := by
       intro hk7
       obtain ⟨g1, g2, g3⟩ := h7 hk7
       have hy : ((fromQ x Y l.frm).length : Int) = sizeL (currL m.input (T.take j)) := by
        rw [<- g3]
        unfold fromQ
        by_cases h0 : 0 <= l.frm
        ·rw [if_pos h0, if_pos h0]
         have hlt1 : l.frm.toNat < (T.take j).length := by omega
         have hlt2 : l.frm.toNat < Y.length := by rw [<- HTrI.out.len]; exact hlt1
         rw [List.getD_eq_getElem?_getD, List.getD_eq_getElem?_getD, List.getElem?_eq_getElem hlt1, List.getElem?_eq_getElem hlt2]
         exact HTrI.out.size _ _ _ (List.getElem?_eq_getElem hlt1) (List.getElem?_eq_getElem hlt2)
        ·rw [if_neg h0, if_neg h0]
         exact HTrI.out.x0
       omega
      have hc9 := fun o => hbw.cell (p := ⟨bl, o, none⟩) hbl
      have l0 := (hc9 _).trans l0
      have l1 := (hc9 _).trans l1
      have l2 := (hc9 _).trans l2
      have l3 := (hc9 _).trans l3
      have l4 := (hc9 _).trans l4
      have l5 := (hc9 _).trans l5
      have l6 := (hc9 _).trans l6
      have l7 := (hc9 _).trans l7
      have l8 := (hc9 _).trans l8
      have hbl2 := Nat.lt_of_lt_of_le hbl hbw.size
      obtain ⟨bT, oT, t, aT, ct, haT, tc0, hTi, htc, hIt, hbT, _⟩ := HI.out.pickc (k := j) (by rw [hTl]; exact hlt)
      have E3 : Hid (currL m.input (T.take (j + 1)) = t) := by
       unfold Hid currL
       rw [List.getLast?_take, if_neg (by omega), show j + 1 - 1 = j by omega, hTi]
       rfl
      have hF7 : l.kind = 7 -> 0 <= l.frm -> l.frm.toNat < Y.length := fun hk7 hf => by
       obtain ⟨g1, g2, g3⟩ := h7 hk7
       have : l.frm.toNat < (T.take j).length := by omega
       rw [HTrI.out.len] at this
       exact this
      have hYl : (Y.map (fun y : List Rat => y.map ratL)).length = j := by rw [List.length_map]; exact HYl.out
      obtain ⟨ly, hly⟩ : ∃ ly, ly = layQ l (currL m.input (T.take j)) (currQ x Y) (fromQ x Y l.frm) := ⟨_, rfl⟩
      have HOutp : Hid (∀ W', TrSt w1 W' w1.heap.size (.slice av j cv) (Y.map (fun y => y.map ratL)) (S.lay l b1 d1 b2 d2 av j cv).fn S.ax ((currQ x Y).map ratL) ->
        Calls Tryz.prog 38 #[(S.lay l b1 d1 b2 d2 av j cv).val] W' (RowRet W' (ly.map ratL))) := fun W' hts => by
       have hb1 := HB1.out.trans (hts.bl.mono HB1.out.size)
       rw [hly]
       exact evOutput (S := S.lay l b1 d1 b2 d2 av j cv) (inp := x) (Y := Y) hfit hnum hcx (by omega) (by omega) rfl rfl rfl rfl rfl rfl rfl rfl HStp.out.nS HStp.out.nx (r1.below hb1) (r2.below hb1) (HStp.out.sh.below hts.bl) hts.cur
        (by have := HX0.out.below hb1; rw [show (S.lay l b1 d1 b2 d2 av j cv).ai = ax from HStp.out.ai]; exact this) HStp.out.ni (hts.own.rows (by rw [hYl]; omega)) HYl.out hF7 rfl hlen7 (HSm.out l hmem) hcB (HTrI.out.frm l.frm) HTrI.out.hD HTrI.out.hB HRm.out.now
      rw [<- hly] at hq2 k3
      have HQ2 := hid hq2
      have K1 := hid k1
      have K2 := hid k2
      have K3 := hid k3
      have HIt := hid hIt
      have HYm := hid hYl
      have hal : Below wr.heap.size wr (wr.alloc (layO l b1 d1 b2 d2 42)) := (Below.refl _ _).alloc (Nat.le_refl _) _
      have HTj := hid (HTS.out.below hal)
      have HBx9 := hid (Box9.alloc wr (.int .i64 l.kind) (.int .i64 l.frm) (.int .i64 l.out) (.int .i64 l.kh) (.int .i64 l.kw) (.int .i64 l.stride) (.int .i64 l.pad) (.slice b1 l.weights.length d1) (.slice b2 l.bias.length d2) 42)
      subst ha2 haT
      clear hq2 k1 k2 k3 hYl hF7 hlen7 h7 hfit hnum hcx hcB hvc hsz2 hf0 hdrop hq hTj hmem hout hIt hal hc9 hly r1 r2
      go_upto_region 11 with fail
      generalize wr.alloc (layO l b1 d1 b2 d2 42) = wj at *
      clear l0 l1 l2 l3 l4 l5 l6 l7 l8
      obtain ⟨l0, l1, l2, l3, l4, l5, l6, l7, l8, l9⟩ := HBx9.out
      have HLy := hid (HTj.out.lay l b1 d1 b2 d2 av j cv)
      obtain ⟨f0, f1, f2, f3, f4, f5, f6, f7, f8, f9, f10, f11, f12, ff, flt⟩ := SBox.fn HTj.out.box
      go_upto_region 12 with fail
      generalize (((((((((wj.setCell ⟨w1.heap.size, 0, none⟩ (.int .i64 l.kind)).setCell ⟨w1.heap.size, 1, none⟩ (.int .i64 l.frm)).setCell ⟨w1.heap.size, 2, none⟩ (.int .i64 l.out)).setCell ⟨w1.heap.size, 3, none⟩ (.int .i64 l.kh)).setCell ⟨w1.heap.size, 4, none⟩ (.int .i64 l.kw)).setCell ⟨w1.heap.size, 5, none⟩ (.int .i64 l.stride)).setCell ⟨w1.heap.size, 6, none⟩ (.int .i64 l.pad)).setCell ⟨w1.heap.size, 7, none⟩ (.slice b1 l.weights.length d1)).setCell ⟨w1.heap.size, 8, none⟩ (.slice b2 l.bias.length d2)).setCell ⟨w1.heap.size, 12, none⟩ (.slice av j cv) = wk at *
      have HAi : Hid ((S.lay l b1 d1 b2 d2 av j cv).ai = ax /\ x.length = (S.lay l b1 d1 b2 d2 av j cv).ni) := ⟨HStp.out.ai, HStp.out.ni⟩
      clear HStp HTS HTj f0 f1 f2 f3 f4 f5 f6 f7 f8 f9 f10 f11 f12 ff flt l0 l1 l2 l3 l4 l5 l6 l7 l8 l9
      generalize S.lay l b1 d1 b2 d2 av j cv = S1 at *
      have HC := hid (HOutp.out wk HLy.out)
      obtain ⟨f0, f1, f2, f3, f4, f5, f6, f7, f8, f9, f10, f11, f12, ff, flt⟩ := SBox.fn HLy.out.box
      unfold StepV.val at HC
      clear HOutp
      go_wp2_with fail
      refine HC.out.mono ?_
      rintro e w3 ⟨aR, cR, rfl, hcR, hR, hb⟩
      obtain ⟨nR, hnR⟩ : ∃ nR, nR = (ly.map ratL).length := ⟨_, rfl⟩
      rw [<- hnR] at hcR ⊢
      have HNR := hid hnR.symm
      have HT3 := hid (HLy.out.below hb)
      have HT4 := hid ((HT3.out.nums aR nR cR).shap aT t.length ct)
      have HR4 := hid ((hR.set HT3.out.ai 10 (.slice aR nR cR)).set (HT3.out.nums aR nR cR).ai 9 (.slice aT t.length ct))
      clear HLy HC f0 f1 f2 f3 f4 f5 f6 f7 f8 f9 f10 f11 f12 ff flt
      obtain ⟨_, _, _, _, _, _, _, _, _, f9, f10, _, _, ff, flt⟩ := SBox.fn HT3.out.box
      have tc0 := (HT3.out.bl.cell (p := ⟨bT, oT + j, none⟩) hbT).trans tc0
      have hbT2 := Nat.lt_of_lt_of_le hbT HT3.out.bl.size
      clear hR hb hnR
      go_upto_region 14 with fail
      generalize (w3.setCell ⟨w1.heap.size, 10, none⟩ (.slice aR nR cR)).setCell ⟨w1.heap.size, 9, none⟩ (.slice aT t.length ct) = w4 at *
      clear f9 f10 ff flt tc0 HT3
      have f10 := (SBox.fn HT4.out.box).f10
      have flt := (SBox.fn HT4.out.box).lt
      obtain ⟨S2, hS2⟩ : ∃ S2, S2 = (S1.nums aR nR cR).shap aT t.length ct := ⟨_, rfl⟩
      rw [show ((S1.nums aR nR cR).shap aT t.length ct).ax = aR from rfl, show ((S1.nums aR nR cR).shap aT t.length ct).nx = nR from rfl, show ((S1.nums aR nR cR).shap aT t.length ct).cx = cR from rfl] at f10
      have HSI : Hid (StpI w1 S2 (currL m.input (T.take (j + 1))) (currQ x (Y ++ [ly])).length x.length ax) := by
       unfold Hid
       rw [hS2, E3.out]
       refine ⟨rfl, HIt.out.mono (fun _ _ _ => trivial), ?_, HAi.out.1, HAi.out.2⟩
       have := HNR.out
       rw [List.length_map] at this
       show (currQ x (Y ++ [ly])).length = nR
       simpa [currQ] using this
      have hax2 : S2.ax = aR := by rw [hS2]; rfl
      rw [<- hS2] at HT4
      have HAx2 := hid hax2
      have HCu : Hid ((currQ x (Y ++ [ly])).map ratL = ly.map ratL) := by unfold Hid; simp [currQ]
      have hsz4 : w1.heap.size + 1 <= w4.heap.size := flt
      clear hS2 hax2
      go_wp2_with (at_builtin; refine wpList_appRR2 rfl (.tmp 53) (.tmp 56) 29 rfl (w1.heap.size + 1) Tryz.underlying29 (by kernel_rfl) (.slice av j cv) j _ HYm.out rfl HT4.out.own (ly.map ratL) nR HNR.out aR cR hcR HR4.out rfl (by omega) hsz4 ?_; intro b3 k3 w5 hown hk3 hbe hgr; have HT5 := hid (show TrSt w1 w5 w1.heap.size (.slice b3 (j + 1) k3) ((Y ++ [ly]).map (fun y => y.map ratL)) S2.fn S2.ax ((currQ x (Y ++ [ly])).map ratL) from by rw [HAx2.out, HCu.out, List.map_append]; exact HT4.out.grow hbe hown (hgr _ _ HR4.out)); clear hown hbe hgr)
      go_roundw
      case rel =>
       refine ⟨j + 1, b3, k3, Y ++ [ly], D' * kk, 9671406556917033397649408 * B', S2, hlt, rfl, by go_num, HT5.out, HSI.out, ?_, K3.out, ?_, HQ2.out⟩
       ·unfold Hid; rw [List.length_append, HYl.out]; rfl
       ·have h := HRm.out
        rw [show 12 - j = (12 - (j + 1)) + 1 by omega] at h
        exact h.next K2.out
      case measure => simp [intOf]; omega
     ·obtain rfl : j = m.layers.length := by omega
      have HF : Hid (RR = (Y.map (fun y => y.map ratL), 0)) := by
       have h := HTq.out
       rw [List.drop_length] at h
       unfold Hid
       rw [<- HRd.out, <- h]
       rfl
      have hYl : (Y.map (fun y : List Rat => y.map ratL)).length = m.layers.length := by rw [List.length_map]; exact HYl.out
      have hcv : (Y.map (fun y : List Rat => y.map ratL)).length <= cv := by
       obtain ⟨xs, ho, _⟩ := HTS.out.own.ex
       rw [hYl] at ho
       obtain ⟨a', c', e, hc⟩ := own_form1c ho
       cases e
       rw [hYl]
       exact hc
      have hrows := HTS.out.own.rows (by rw [hYl]; omega)
      have hPost : TrPost w RR (.returned (.tuple #[.slice av m.layers.length cv, .int .i64 0])) wr := by
       rw [HF.out]
       exact ⟨av, cv, by rw [hYl], hcv, hrows, HB1.out.trans (HB.out.mono HB1.out.size)⟩
      have HPost := hid hPost
      clear hPost hrows hcv hYl
      go_wp2
      refine bodyPost_ret (results_tmp2 rfl _ _ _) rfl ?_
      exact HPost.out
   ·rw [if_neg hsz] at HRd
    have HF := hid HRd.out.symm
    generalize sizeL m.input = n at *
    have t1 : ((x.length : Int) != n) = true := by rw [bne_iff_ne]; exact hsz
    clear hsz
    go_wp2_with fail
    refine HSz.out.mono ?_
    rintro e w2 ⟨rfl, rfl⟩
    go_wp2
    refine bodyPost_ret (results_tmp2 rfl _ _ _) rfl ?_
    exact trPost_err HF.out HB1.out
  ·omega
 ·rw [if_neg he] at HRd
  generalize (shapesL m).2.2 = er at *
  generalize (shapesL m).2.1 = ei at *
  have t1 : (er != 0) = true := by rw [bne_iff_ne]; exact he
  have HF := hid HRd.out.symm
  clear he hI
  go_wp2
  refine bodyPost_ret (results_tmp2 rfl _ _ _) rfl ?_
  exact trPost_err HF.out HB1.out
def runL (m : ModL) (x : List Rat) : List RatL × Int := if (traceL m x).2 = 0 then ((traceL m x).1.getLast?.getD (x.map ratL), 0) else ([], (traceL m x).2)
def RunPost (w : World) (R : List RatL × Int) (e : Ending) (w' : World) : Prop := ∃ a c, e = .returned (.tuple #[.slice a R.1.length c, .int .i64 R.2]) /\ R.1.length <= c /\ RatsAt w' a R.1 /\ Below w.heap.size w w'
theorem copy_rats {w wa w' : World} {v : Value} {a : Option Addr} {L : List RatL} {n : Nat} {news : List Value} (hn : L.length = n) (hl : n <= 9223372036854775807) (hb : Below w.heap.size w w')
  (hnews : ∀ (j : Nat) (x : RatL), L[j]? = some x -> ∃ (an ad : Option Addr) (cn cd : Nat), news[j * 3]? = some (.bool x.neg) /\ news[j * 3 + 1]? = some (.slice an x.num.length cn) /\ news[j * 3 + 2]? = some (.slice ad x.den.length cd) /\ RatV w (.agg #[.bool x.neg, .slice an x.num.length cn, .slice ad x.den.length cd]) x)
  {base T : Nat} (hown : w'.ownsRow base T 3 v (0 + n) ([] ++ news)) : ∃ a c, v = .slice a L.length c /\ L.length <= c /\ RatsAt w' a L := by
 rw [Nat.zero_add, List.nil_append] at hown
 exact own_ratsE hown hn hl (fun j z hj => by
  obtain ⟨an, ad, cn, cd, h1, h2, h3, h4⟩ := hnews j z hj
  exact ⟨an, ad, cn, cd, h1, h2, h3, h4.below hb⟩)
theorem evRun {w : World} {m : ModL} {a1 a2 ax : Option Addr} {x : List Rat} {D B : Nat} (c1 c2 cx : Nat) (h1 : Ints w Any a1 m.input) (h2 : LaysAt w a2 m.layers) (hr : ∀ l ∈ m.layers, LayRange l) (hs : ∀ l ∈ m.layers, LayLe l)
  (hX : RatsAt w ax (x.map ratL)) (hsm : ∀ l ∈ m.layers, SmallL l) (hxB : BdL D B x) (hD : 0 < D) (hB : 1 <= B) (hl12 : m.layers.length <= 12) (hroom : RoomK 12 D B) (hxl : x.length <= 1000000) (htl : ∀ l ∈ (traceL m x).1, l.length <= 1000000) :
  Calls Tryz.prog 17 #[.agg #[.slice a1 m.input.length c1, .slice a2 m.layers.length c2], .slice ax x.length cx] w (RunPost w (runL m x)) := by
 have hal0 : Below w.heap.size w (w.alloc (.cells #[.slice a1 m.input.length c1, .slice a2 m.layers.length c2] 25)) := (Below.refl _ _).alloc (Nat.le_refl _) _
 have HTr := hid (evTrace c1 c2 cx (h1.below hal0) (h2.below hal0) hr hs (hX.below hal0) hsm hxB hD hB hl12 hroom)
 have HX := hid hX
 have Htl := hid htl
 have hx := Box2.alloc w (.slice a1 m.input.length c1) (.slice a2 m.layers.length c2) 25
 generalize hRR : runL m x = RR
 unfold runL at hRR
 have HR := hid hRR
 have HB0 := hid hal0
 clear h1 h2 hr hs hX hsm hxB hroom htl hRR hal0
 go_enter Tryz.func17, Tryz.ntmps17
 go_upto_region 1 with fail
 generalize w.alloc (.cells #[.slice a1 m.input.length c1, .slice a2 m.layers.length c2] 25) = W at *
 obtain ⟨x0, x1, xf, xlt⟩ := hx
 go_wp2_with fail
 refine HTr.out.mono ?_
 rintro e w1 ⟨aT, cT, rfl, hcT, hrows, hb⟩
 obtain ⟨TT, hTT⟩ : ∃ TT, TT = traceL m x := ⟨_, rfl⟩
 rw [<- hTT] at HR Htl hcT hrows ⊢
 have HRw := hid hrows
 have HB1 := hid (HB0.out.trans (hb.mono HB0.out.size))
 obtain ⟨nT, hnT⟩ : ∃ nT, nT = TT.1.length := ⟨_, rfl⟩
 have hTlen : nT <= 9223372036854775807 := by rw [hnT]; exact hrows.len
 rw [<- hnT] at hcT ⊢
 have HNT := hid hnT
 generalize her : TT.2 = er at *
 clear hb hTT hrows hnT HTr x0 x1 xf xlt
 by_cases he : er = 0
 ·subst he
  by_cases hz : nT = 0
  ·have hRe : RR = (x.map ratL, 0) := by
    rw [<- HR.out, if_pos rfl, List.eq_nil_of_length_eq_zero (HNT.out.symm.trans hz)]
    rfl
   subst hz
   obtain ⟨news, hsrc, hnews⟩ := (HX.out.below HB1.out).srcE
   rw [List.length_map] at hsrc
   have hal : Below w1.heap.size w1 (w1.alloc (.cells #[] 37)) := (Below.refl _ _).alloc (Nat.le_refl _) _
   have HSrc := hid (hsrc.below hal)
   have HNw := hid hnews
   have HAl := hid hal
   have HRe := hid hRe
   have HEm : Hid ((w1.alloc (.cells #[] 37)).ownsRow w1.heap.size 37 3 (.slice (some ⟨w1.heap.size, 0, none⟩) 0 0) 0 []) := own_empty (empty_newE w1 _) (Nat.le_refl _)
   clear hsrc hnews hal hRe
   go_wp2_with (at_builtin; refine wpList_append_src rfl (.tmp 20) (.tmp 21) 26 26 rfl w1.heap.size 37 (.agg #[.bool false, .slice none 0 0, .slice none 0 0]) 3 56 Tryz.underlying26 Tryz.underlying26 Tryz.infoRat rfl (by omega) _ 0 [] rfl HEm.out ax x.length cx news rfl HSrc.out (by omega) (by unfold maxLen; omega) (by simp) ?_; intro v' w' hown hg hnx; have HOwn := hid hown; have HBg := hid (HAl.out.grown hg HAl.out.size (fun j hj => (HEm.out.lt j hj).1)); clear hown hg hnx)
   obtain ⟨a, c, hv, hc, hR⟩ := copy_rats (wa := w1) (a := none) (L := x.map ratL) (by rw [List.length_map]) (by omega) HBg.out HNw.out HOwn.out
   refine bodyPost_ret (results_tmp2 rfl _ _ _) rfl ?_
   rw [HRe.out]
   refine ⟨a, c, ?_, hc, hR, HB1.out.trans (HBg.out.mono HB1.out.size)⟩
   rw [hv]
   rfl
  ·obtain ⟨i, hi⟩ : ∃ i, nT = i + 1 := ⟨nT - 1, by omega⟩
   obtain ⟨bY, oY, l, ay, cy, haY, yc0, hYi, hyc, hRy, hbY⟩ := HRw.out.pick (k := i) (by rw [<- HNT.out]; omega)
   have hRe : RR = (l, 0) := by
    rw [<- HR.out, if_pos rfl, List.getLast?_eq_getElem?, <- HNT.out, hi, show i + 1 - 1 = i by omega, hYi]
    rfl
   have hll := Htl.out l (List.mem_of_getElem? hYi)
   subst haY
   obtain ⟨news, hsrc, hnews⟩ := hRy.srcE
   obtain ⟨nl, hnl⟩ : ∃ nl, nl = l.length := ⟨_, rfl⟩
   rw [<- hnl] at yc0 hyc hll hsrc
   have hal : Below w1.heap.size w1 (w1.alloc (.cells #[] 37)) := (Below.refl _ _).alloc (Nat.le_refl _) _
   have HSrc := hid (hsrc.below hal)
   have HNw := hid hnews
   have HAl := hid hal
   have HRe := hid hRe
   have HNl := hid hnl
   have HEm : Hid ((w1.alloc (.cells #[] 37)).ownsRow w1.heap.size 37 3 (.slice (some ⟨w1.heap.size, 0, none⟩) 0 0) 0 []) := own_empty (empty_newE w1 _) (Nat.le_refl _)
   have q1 : decide (nT = 0) = false := decide_eq_false hz
   have q2 : ((nT : Int) == 0) = false := by rw [beq_eq_false_iff_ne]; omega
   have m0 : (nT : Int) - 1 = (i : Int) := by omega
   have hin : i < nT := by omega
   have yc1 : (w1.alloc (.cells #[] 37)).cell? ⟨bY, oY + i, none⟩ = some (.slice ay nl cy) := (hal.cell hbY).trans yc0
   have hbY2 : bY < (w1.alloc (.cells #[] 37)).heap.size := Nat.lt_of_lt_of_le hbY hal.size
   clear hsrc hnews hal hRe hnl hYi hRy hi
   go_wp2_with (at_builtin; refine wpList_append_src rfl (.tmp 23) (.tmp 29) 26 26 rfl w1.heap.size 37 (.agg #[.bool false, .slice none 0 0, .slice none 0 0]) 3 56 Tryz.underlying26 Tryz.underlying26 Tryz.infoRat rfl (by omega) _ 0 [] rfl HEm.out ay nl cy news rfl HSrc.out (by omega) (by unfold maxLen; omega) (by simp) ?_; intro v' w' hown hg hnx; have HOwn := hid hown; have HBg := hid (HAl.out.grown hg HAl.out.size (fun j hj => (HEm.out.lt j hj).1)); clear hown hg hnx)
   obtain ⟨a, c, hv, hc, hR⟩ := copy_rats (wa := w1) (a := none) (L := l) HNl.out.symm (by omega) HBg.out HNw.out HOwn.out
   refine bodyPost_ret (results_tmp2 rfl _ _ _) rfl ?_
   rw [HRe.out]
   refine ⟨a, c, ?_, hc, hR, HB1.out.trans (HBg.out.mono HB1.out.size)⟩
   rw [hv]
   rfl
 ·have t1 : (er != 0) = true := by rw [bne_iff_ne]; exact he
  have hRe : RR = ([], er) := by rw [<- HR.out, if_neg he]
  have HF := hid hRe
  clear he hRe
  go_wp2
  refine bodyPost_ret (results_tmp2 rfl _ _ _) rfl ?_
  rw [HF.out]
  exact ⟨none, 0, rfl, Nat.le_refl _, ⟨by simp, .inl rfl⟩, HB1.out⟩
theorem small_num {q : Rat} (h : smallR (ratL q) = true) : q.den <= 4294967296 /\ q.num.natAbs <= 18446744073709551616 := by
 unfold smallR at h
 rw [Bool.and_eq_true, decide_eq_true_eq, decide_eq_true_eq] at h
 obtain ⟨h1, h2⟩ := h
 constructor
 ·by_cases hd : q.den = 1
  ·omega
  ·have e : (ratL q).den = limbs q.den := by simp [ratL, hd]
   rw [e] at h2
   have := limbs_len_lt q.den
   exact Nat.le_of_lt (Nat.lt_of_lt_of_le this (Nat.le_trans (Nat.pow_le_pow_right (by omega) h2) (by omega)))
 ·have e : (ratL q).num = limbs q.num.natAbs := rfl
  rw [e] at h1
  have := limbs_len_lt q.num.natAbs
  exact Nat.le_of_lt (Nat.lt_of_lt_of_le this (Nat.le_trans (Nat.pow_le_pow_right (by omega) h1) (by decide)))
theorem little_back {L : List RatL} (h : littleL L = true) : L = (L.map ratOf).map ratL /\ ∀ q ∈ L.map ratOf, q.den <= 4294967296 /\ q.num.natAbs <= 18446744073709551616 := by
 unfold littleL at h
 rw [Bool.and_eq_true] at h
 have hb := validR_back h.2
 refine ⟨hb, fun q hq => small_num ?_⟩
 exact List.all_eq_true.1 h.1 _ (by rw [hb]; exact List.mem_map_of_mem hq)
theorem pow_room {a b c : Nat} (M : Nat) (hM : 2 <= M) (h : a + b + 2 <= c) {x y : Nat} (hx : x <= M ^ a) (hy : y <= M ^ b) : x * y + y < M ^ c := by
 have h1 : x * y <= M ^ (a + b) := by rw [Nat.pow_add]; exact Nat.mul_le_mul hx hy
 have h2 : M ^ b <= M ^ (a + b) := Nat.pow_le_pow_right (by omega) (by omega)
 have h4 : M ^ (a + b + 2) <= M ^ c := Nat.pow_le_pow_right (by omega) h
 have h5 : 0 < M ^ (a + b) := Nat.pow_pos (by omega)
 have h6 : M ^ (a + b + 2) = M ^ (a + b) * (M * M) := by rw [Nat.pow_add, Nat.pow_two]
 have h7 : 4 <= M * M := Nat.mul_le_mul hM hM
 have h8 : M ^ (a + b) * 4 <= M ^ (a + b) * (M * M) := Nat.mul_le_mul_left _ h7
 omega
theorem pow_le3 {M C : Nat} (hC : C <= M ^ 3) (k : Nat) : C ^ k <= M ^ (3 * k) := by rw [Nat.pow_mul]; exact Nat.pow_le_pow_left hC k
theorem room_gen (M C U p q u : Nat) (hM : 2 <= M) (hC : C <= M ^ 3) (hU : U <= M ^ u) {W n c : Nat} (hW : W <= M ^ n) (hc : 3 + (3 * q + u) + (n + p * q + p) + 2 <= c) : ∀ D' B', D' <= W * (M ^ p) ^ q -> B' <= C ^ q * U -> (C * B') * (D' * M ^ p) + D' * M ^ p < M ^ c := by
 intro D B hD hB
 have h1 : B <= M ^ (3 * q + u) := Nat.le_trans hB (by rw [Nat.pow_add]; exact Nat.mul_le_mul (pow_le3 hC q) hU)
 have h2 : C * B <= M ^ (3 + (3 * q + u)) := by rw [Nat.pow_add M 3]; exact Nat.mul_le_mul hC h1
 have h3 : D <= M ^ (n + p * q) := Nat.le_trans hD (by rw [Nat.pow_add, Nat.pow_mul]; exact Nat.mul_le_mul_right _ hW)
 have h4 : D * M ^ p <= M ^ (n + p * q + p) := by rw [Nat.pow_add M (n + p * q)]; exact Nat.mul_le_mul_right _ h3
 exact pow_room M hM hc h2 h4
theorem room_ofU {W U : Nat} {n u : Nat} (hW : W <= 4294967296 ^ n) (hU : U <= 4294967296 ^ u) (hn : n + u <= 400) : RoomK 12 W U := by
 intro D B hD hB
 unfold Room
 obtain ⟨p, hp, e⟩ := WQ_pow
 rw [e] at hD ⊢
 have hc : 3 + (3 * 12 + u) + (n + p * 12 + p) + 2 <= 524285 := by omega
 generalize (524285 : Nat) = c at hc ⊢
 exact room_gen 4294967296 9671406556917033397649408 U p 12 u (by omega) (by decide) hU hW hc D B hD hB
theorem room_of {W : Nat} {n : Nat} (hW : W <= 4294967296 ^ n) (hn : n <= 390) : RoomK 12 W 18446744073709551616 := room_ofU (u := 2) hW (by decide) (by omega)
theorem curr_valid {input : List Int} {S : List (List Int)} {l : LayL} (h : (outSL input S l).2 = 0) : validL (currL input S) = true := by
 rcases outSL_cases input S l with ⟨k, _, _⟩ | ⟨k, _⟩
 ·omega
 ·simp only [Bool.and_eq_true] at k
  unfold currL
  cases hg : S.getLast? with
  | none => exact k.1.1
  | some z => exact List.all_eq_true.1 k.2 z (List.mem_of_getLast? hg)
theorem out_valid {input : List Int} {S : List (List Int)} {l : LayL} {s : List Int} (h : outSL input S l = (s, 0)) : validL s = true := by
 rcases outSL_cases input S l with ⟨k, _, _⟩ | ⟨_, ⟨k, _⟩ | ⟨_, k2, _, k4⟩⟩
 ·rw [h] at k; simp at k
 ·rw [h] at k; simp at k
 ·rw [h] at k2; simp only at k2; rw [k2]; exact k4
theorem Chain.head {input : List Int} {S T : List (List Int)} {l : LayL} {L : List LayL} (h : Chain input S T (l :: L)) : ∃ s T', T = s :: T' /\ outSL input S l = (s, 0) /\ Chain input (S ++ [s]) T' L := by
 obtain ⟨hl, hc⟩ := h
 cases T with
 | nil => simp at hl
 | cons s T' =>
  refine ⟨s, T', rfl, by simpa using hc 0 s l rfl rfl, by simpa using hl, fun j s' l' h1 h2 => ?_⟩
  have := hc (j + 1) s' l' (by simpa using h1) (by simpa using h2)
  simpa using this
theorem trace_inv {input : List Int} {x : List Rat} : ∀ {L : List LayL} {S T : List (List Int)} {Y : List (List Rat)} {D B k : Nat}, TrI input x S Y D B -> RoomK (k + L.length) D B -> Chain input S T L -> (∀ l ∈ L, SmallL l) ->
  ∃ D' B', TrI input x (S ++ T) (traceFrom input x S Y L) D' B' /\ RoomK k D' B'
 | [], S, T, Y, D, B, k, hT, hR, hc, _ => by
  have : T = [] := List.eq_nil_of_length_eq_zero hc.1
  subst this
  exact ⟨D, B, by rw [List.append_nil]; exact hT, hR⟩
 | l :: L, S, T, Y, D, B, k, hT, hR, hc, hs => by
  obtain ⟨s, T', rfl, ho, hc'⟩ := hc.head
  obtain ⟨j, j1, j2, j3⟩ := hT.step (by rw [ho]) (hs l (by simp)) (curr_valid (by rw [ho]))
  rw [ho] at j3
  have hR' : RoomK (k + L.length) (D * j) (9671406556917033397649408 * B) := by
   rw [List.length_cons, <- Nat.add_assoc] at hR
   exact hR.next j2
  obtain ⟨D', B', h1, h2⟩ := trace_inv j3 hR' hc' (fun l hl => hs l (by simp [hl]))
  refine ⟨D', B', ?_, h2⟩
  have e : traceFrom input x S Y (l :: L) = traceFrom input x (S ++ [s]) (Y ++ [layQ l (currL input S) (currQ x Y) (fromQ x Y l.frm)]) L := by
   show traceFrom input x (S ++ [(outSL input S l).1]) _ _ = _
   rw [ho]
  rw [e]
  rw [List.append_assoc] at h1
  exact h1
theorem traceL_inv {m : ModL} {x : List Rat} {D B k : Nat} (hR : RoomK (k + m.layers.length) D B) (hxB : BdL D B x) (hD : 0 < D) (hB : 1 <= B) (hs : ∀ l ∈ m.layers, SmallL l) :
  ((traceL m x).2 ≠ 0 /\ (traceL m x).1 = []) ∨ (∃ T D' B', Chain m.input [] T m.layers /\ validM m = true /\ shapesL m = (T, 0, 0) /\ (x.length : Int) = sizeL m.input /\ traceL m x = ((traceQ m x).map (fun y => y.map ratL), 0) /\ TrI m.input x T (traceQ m x) D' B' /\ RoomK k D' B') := by
 by_cases he : (shapesL m).2.2 = 0
 ·rcases shapesL_cases m with ⟨_, h⟩ | ⟨hv, ⟨T, hc, hT⟩ | ⟨h, _⟩⟩
  ·rw [h] at he; simp at he
  ·by_cases hx : (x.length : Int) = sizeL m.input
   ·have ht : TrI m.input x [] [] D B := ⟨rfl, by simp, hx, hD, hB, hxB, by simp⟩
    obtain ⟨D', B', h1, h2⟩ := trace_inv ht hR hc hs
    refine .inr ⟨T, D', B', hc, hv, hT, hx, ?_, by simpa [traceQ] using h1, h2⟩
    unfold traceL
    rw [if_pos he, if_pos hx]
   ·refine .inl ?_
    unfold traceL
    rw [if_pos he, if_neg hx]
    simp
  ·omega
 ·refine .inl ?_
  unfold traceL
  rw [if_neg he]
  exact ⟨he, rfl⟩
theorem trace_len {m : ModL} {x : List Rat} {D B k : Nat} (hR : RoomK (k + m.layers.length) D B) (hxB : BdL D B x) (hD : 0 < D) (hB : 1 <= B) (hs : ∀ l ∈ m.layers, SmallL l) : ∀ l ∈ (traceL m x).1, l.length <= 16384 := by
 intro l hl
 rcases traceL_inv hR hxB hD hB hs with ⟨_, h⟩ | ⟨T, D', B', hc, _, _, _, h, hT, _⟩
 ·rw [h] at hl; simp at hl
 ·rw [h] at hl
  obtain ⟨y, hy, rfl⟩ := List.mem_map.1 hl
  obtain ⟨j, hj⟩ := List.getElem?_of_mem hy
  have hjl := (List.getElem?_eq_some_iff.1 hj).1
  have hjT : j < T.length := by rw [hT.len]; exact hjl
  have hs := hT.size j _ y (List.getElem?_eq_getElem hjT) hj
  have hjL : j < m.layers.length := by rw [<- hc.1]; exact hjT
  have ho := hc.2 j _ _ (List.getElem?_eq_getElem hjT) (List.getElem?_eq_getElem hjL)
  have := (validL_size (out_valid ho)).2
  rw [List.length_map]
  omega
section
variable {W1 W : World} {V0 V1 V3 V4 V6 : Value} {n k : Nat} {C N : List Value} {d : Nat -> Bool} {g : Nat -> Value}
end
theorem runL_eq (m : ModL) (x : List Rat) : runL m x = if (shapesL m).2.2 = 0 then (if (x.length : Int) = sizeL m.input then ((currQ x (traceQ m x)).map ratL, 0) else ([], 11)) else ([], (shapesL m).2.2) := by
 unfold runL traceL
 by_cases h : (shapesL m).2.2 = 0
 ·rw [if_pos h, if_pos h]
  by_cases hx : (x.length : Int) = sizeL m.input
  ·rw [if_pos hx, if_pos hx, if_pos rfl]
   unfold currQ
   cases hl : (traceQ m x).getLast? with
   | none => rw [List.getLast?_map, hl]; rfl
   | some y => rw [List.getLast?_map, hl]; rfl
  ·rw [if_neg hx, if_neg hx, if_neg (by decide)]
 ·rw [if_neg h, if_neg h, if_neg h]
structure Fits (m : ModL) (x : List Rat) (T : List (List Int)) (Y : List (List Rat)) : Prop where
 ch : Chain m.input [] T m.layers
 sh : shapesL m = (T, 0, 0)
 tr : traceQ m x = Y
theorem fits_of {m : ModL} (x : List Rat) (h : (shapesL m).2.2 = 0) : ∃ T, Fits m x T (traceQ m x) := by
 rcases shapesL_cases m with ⟨_, k⟩ | ⟨_, ⟨T, hc, hT⟩ | ⟨k, _⟩⟩
 ·rw [k] at h; simp at h
 ·exact ⟨T, hc, hT, rfl⟩
 ·omega
theorem Fits.valid {m : ModL} {x : List Rat} {T : List (List Int)} {Y : List (List Rat)} (h : Fits m x T Y) : validL m.input = true /\ T.all validL = true /\ m.layers.length <= 64 := by
 have hs := h.sh
 rcases shapesL_cases m with ⟨_, k⟩ | ⟨hv, _⟩
 ·rw [k] at hs; simp at hs
 ·unfold validM at hv
  simp only [Bool.and_eq_true, decide_eq_true_eq] at hv
  exact ⟨hv.1, h.ch.valid, hv.2.1⟩
end Go.Proofs.YtoppijdedkdjeaaGreat

/-
  Contracts of the functions that the statements reach, in the order in which they are built: KerO.
-/
import Derived.Test.YthlmgejikbmmaaaGreatM11
import Derived.Test.YthlmgejikbmmaaaGreatM12
set_option linter.unusedVariables false
set_option linter.unusedSimpArgs false
set_option linter.constructorNameAsVariable false
set_option linter.deprecated false

/-
  The walk of the machine's do at gemm: by contract.
-/
namespace Go.Proofs.YthlmgejikbmmaaaGreat
open Go.RowKit Go.Shelf
attribute [local go_sem] Oper.semAt_some

set_option maxHeartbeats 400000 in
theorem tTiles (rows cols h wd : Int) (w : World) : Calls Tryz.prog 28 #[.int .i64 rows, .int .i64 cols, .int .i64 h, .int .i64 wd] w fun e w' =>
    e = .returned (.func (.func 43) #[] #[.pointer (some ⟨w.heap.size, 0, none⟩), .pointer (some ⟨w.heap.size + 1, 0, none⟩), .pointer (some ⟨w.heap.size + 2, 0, none⟩), .pointer (some ⟨w.heap.size + 3, 0, none⟩)]) ∧
    w' = (((w.alloc (.cells #[.int .i64 rows] 3)).alloc (.cells #[.int .i64 cols] 3)).alloc (.cells #[.int .i64 h] 3)).alloc (.cells #[.int .i64 wd] 3) := by
  have hmf : ∀ (fn : Fn) (first cap : Array Value) (w : World), (Instr.makeFunc fn first cap).run Tryz.prog w = .ok (.func fn first cap) w := fun _ _ _ _ => rfl
  go_enter Tryz.func28, Tryz.ntmps28
  go_wp2
  go_ret
  exact ⟨rfl, rfl⟩

/-- A block of cells abides whatever is done to what is no cells. -/
theorem own_block {b : Nat} {c : Array Value} {t : TypeId} {f : Nat × Nat} : ∀ (A B : World) (row : Option Nat), A.heap[b]? = some (.cells c t f) → A.grownBy B row → (∀ r, row = some r → ∃ o : Obj, A.heap[r]? = some o ∧ o.isCells = false) →
    B.heap[b]? = some (.cells c t f) := fun _ _ _ h hg hr => (grownBy_keeps_cells hg hr h rfl).trans h

theorem cellOf {w : World} {b : Nat} {v : Value} {t : TypeId} {f : Nat × Nat} (h : w.heap[b]? = some (.cells #[v] t f)) : w.cell? ⟨b, 0, none⟩ = some v := by
  simp [World.cell?, h]

theorem cellOf4 {w : World} {b : Nat} {v0 v1 v2 v3 : Value} {t : TypeId} {f : Nat × Nat} (h : w.heap[b]? = some (.cells #[v0, v1, v2, v3] t f)) :
    w.cell? ⟨b, 0, none⟩ = some v0 ∧ w.cell? ⟨b, 0 + 1, none⟩ = some v1 ∧ w.cell? ⟨b, 0 + 2, none⟩ = some v2 ∧ w.cell? ⟨b, 0 + 3, none⟩ = some v3 := by
  simp [World.cell?, h]
theorem setHeap {w : World} {b : Nat} {u v : Value} {t : TypeId} {f : Nat × Nat} (h : w.heap[b]? = some (.cells #[v] t f)) : (w.setCell ⟨b, 0, none⟩ u).heap[b]? = some (.cells #[u] t f) := by
  simp [World.setCell, Array.getElem?_modify, h]
theorem frozenOf {w : World} {b : Nat} {v : Value} {t : TypeId} (h : w.heap[b]? = some (.cells #[v] t (0, 0))) : w.frozen? ⟨b, 0, none⟩ = false := by
  simp [World.frozen?, h]


theorem callsIn_round9 {F : Fence} {l n : Nat} {P : Program} {f : FuncId} {args : Array Value} {w : World} {R : Ending → World → Prop} (h : CallsIn F n P f args w R) : CallsIn (F.inRound l) n P f args w R := h
theorem Ints.held {w w' : World} {F : Nat → Prop} {gd : Nat} {a : Option Addr} {l : List Int} (h : Ints w F a l) (hF : ∀ b, F b → b ≠ gd) (hh : Held (fun b => b < w.heap.size ∧ b ≠ gd) w w') : Ints w' F a l := by
  obtain ⟨h1, h2, h3⟩ := h
  refine ⟨h1, h2, ?_⟩
  rcases h3 with h3 | ⟨b, o, rfl, hb, hlt, hc⟩
  · exact .inl h3
  · refine .inr ⟨b, o, rfl, hb, Nat.lt_of_lt_of_le hlt hh.size, fun j d hj => ?_⟩
    exact (hh.cell (p := ⟨b, o + j, none⟩) ⟨hlt, hF b hb⟩).trans (hc j d hj)
/-- What gemm lays. -/
def gemmL (Wt Bi S : List Int) (inner cols n : Nat) : List Int := (List.range n).map (gemmAt Wt Bi S inner cols)

/-- In one of the first k tiles. -/
def covT (rows cols th tw k : Nat) (q : Nat) : Bool :=
  (List.range k).any fun j => inTile cols (cutAt rows th (j / cutN cols (min tw cols))) (cutAt cols tw (j % cutN cols (min tw cols))) (min th (rows - cutAt rows th (j / cutN cols (min tw cols)))) (min tw (cols - cutAt cols tw (j % cutN cols (min tw cols)))) q

theorem covT_zero (rows cols th tw q : Nat) : covT rows cols th tw 0 q = false := by simp [covT]
theorem covT_succ (rows cols th tw k q : Nat) : covT rows cols th tw (k + 1) q = (covT rows cols th tw k q || inTile cols (cutAt rows th (k / cutN cols (min tw cols))) (cutAt cols tw (k % cutN cols (min tw cols))) (min th (rows - cutAt rows th (k / cutN cols (min tw cols)))) (min tw (cols - cutAt cols tw (k % cutN cols (min tw cols)))) q) := by
  simp [covT, List.range_succ, List.any_append]
theorem updL_updL (p p' : Nat → Bool) (f : Nat → Int) (D : List Int) : updL p f (updL p' f D) = updL (fun q => p' q || p q) f D := by
  unfold updL
  apply List.ext_getElem
  · simp
  · intro i h1 h2
    have hi : i < D.length := by simpa using h1
    simp only [List.getElem_map, List.getElem_range, List.getD_eq_getElem?_getD, List.getElem?_map, List.getElem?_range hi, Option.map_some, Option.getD_some]
    cases p i <;> cases p' i <;> simp
theorem updL_all {p : Nat → Bool} {f : Nat → Int} {D : List Int} (h : ∀ q, q < D.length → p q = true) : updL p f D = (List.range D.length).map f := by
  unfold updL
  apply List.map_congr_left
  intro q hq
  rw [h q (List.mem_range.1 hq)]; rfl
/-- Every place lies in a piece. -/
theorem cut_cover {n h r : Nat} (hn : 1 ≤ n) (hh : 1 ≤ h) (hr : r < n) : ∃ i, i < cutN n (min h n) ∧ cutAt n h i ≤ r ∧ r < cutAt n h i + min h (n - cutAt n h i) := by
  have hs : 1 ≤ min h n := by omega
  have h0 : r / min h n * min h n ≤ r := Nat.div_mul_le_self _ _
  have h1 : r < r / min h n * min h n + min h n := by
    have := Nat.lt_div_mul_add (a := r) (b := min h n) (by omega)
    omega
  have hi : r / min h n < cutN n (min h n) := (cutN_lt hs).2 (by omega)
  refine ⟨r / min h n, hi, ?_⟩
  have e : cutAt n h (r / min h n) = r / min h n * min h n := by simp [cutAt, hi]
  rw [e]
  generalize r / min h n * min h n = x at *
  omega
theorem covT_end {rows cols th tw q : Nat} (hr : 1 ≤ rows) (hc : 1 ≤ cols) (h1 : 1 ≤ th) (h2 : 1 ≤ tw) (hq : q < rows * cols) : covT rows cols th tw (tilesN rows cols th tw) q = true := by
  have hqr : q / cols < rows := (Nat.div_lt_iff_lt_mul (by omega)).2 hq
  have hqc : q % cols < cols := Nat.mod_lt _ (by omega)
  obtain ⟨i, hi, i1, i2⟩ := cut_cover hr h1 hqr
  obtain ⟨j, hj, j1, j2⟩ := cut_cover hc h2 hqc
  unfold covT
  rw [List.any_eq_true]
  refine ⟨i * cutN cols (min tw cols) + j, List.mem_range.2 ?_, ?_⟩
  · unfold tilesN
    exact Nat.lt_of_lt_of_le (Nat.add_lt_add_left hj _) (by rw [← Nat.succ_mul]; exact Nat.mul_le_mul_right _ hi)
  · rw [(rc_div hj).1, (rc_div hj).2]
    unfold inTile
    simp only [Bool.and_eq_true, decide_eq_true_eq]
    omega
/-- Everything but block gd lies as it lay. -/
theorem DoRet.of {w w' : World} {gd : Nat} {v v0 : List Int} (h0 : IBlk w gd v0) (h : Held (fun b => b < w.heap.size ∧ b ≠ gd) w w') (hv : IBlk w' gd v) : DoRet w gd v w' := by
  obtain ⟨T, h0⟩ := h0
  have hlt : gd < w.heap.size := (Array.getElem?_eq_some_iff.1 h0).1
  have hlt' : gd < w'.heap.size := Nat.lt_of_lt_of_le hlt h.size
  refine ⟨w'.putObj gd (.cells (rowI v0) T (0, 0)), ⟨h.os, h.tape, h.output, by simpa using h.size, fun k hk => ?_⟩, ⟨rfl, rfl, rfl, by simp, fun k hk => (World.putObj_heap_other hk).symm⟩, hv⟩
  by_cases e : k = gd
  · subst e; rw [World.putObj_heap_same hlt', h0]
  · rw [World.putObj_heap_other e]; exact h.block k ⟨hk, e⟩
theorem DoRet.held {w w' : World} {gd : Nat} {v : List Int} (h : DoRet w gd v w') : Held (fun b => b < w.heap.size ∧ b ≠ gd) w w' := by
  obtain ⟨wc, hb, ho, _⟩ := h
  exact ⟨ho.os.trans hb.os, ho.tape.trans hb.tape, ho.output.trans hb.output, ho.size ▸ hb.size, fun k hk => (ho.block k hk.2).trans (hb.block k hk.1)⟩
theorem DoRet.blk {w w' : World} {gd : Nat} {v : List Int} (h : DoRet w gd v w') : IBlk w' gd v := h.choose_spec.2.2

set_option maxRecDepth 100000 in
set_option maxHeartbeats 3200000 in
theorem doGemm {w : World} {M B cap : Nat} {gs : List Nat} {vs : List (List Int)} {h wd : Int} (m : Mach w M B cap gs vs h wd) {dn sn gd gc : Nat} {D S : List Int} (d1 : gs[dn]? = some gd) (d2 : vs[dn]? = some D) (s1 : gs[sn]? = some gc) (s2 : vs[sn]? = some S) (hne : dn ≠ sn)
    (ot mu sh : Int) (a1 a2 a3 : Option Addr) (l1 c1 c2 c3 : Nat) {Wt Bi : List Int} {F : Nat → Prop} (hW : Ints w F a2 Wt) (hB : Ints w F a3 Bi) (hF : ∀ b, F b → b ≠ gd) (cols inner : Nat) (hr1 : 1 ≤ Bi.length) (hc1 : 1 ≤ cols) (hDl : D.length = Bi.length * cols) (hSl : S.length = inner * cols) (hWl : Wt.length = Bi.length * inner)
    (hz : Bi.length ≤ 262144 ∧ cols ≤ 262144 ∧ inner ≤ 262144) (th tw : Nat) (hm : (h = 0 ∧ th = Bi.length ∧ tw = cols) ∨ (h = th ∧ wd = tw)) (ht1 : 1 ≤ th ∧ 1 ≤ tw) (ht2 : th ≤ 9223372036854775807 ∧ tw ≤ 9223372036854775807) :
    Calls Tryz.prog 18 #[.pointer (some ⟨M, 0, none⟩), .agg #[.int .i64 2, .int .i64 (dn : Int), .int .i64 (sn : Int), .int .i64 ot, .int .i64 (cols : Int), .int .i64 (inner : Int), .slice a1 l1 c1, .slice a2 Wt.length c2, .slice a3 Bi.length c3, .int .i64 mu, .int .i64 sh]] w
      fun e w' => (∃ u, e = .returned u) ∧ DoRet w gd (gemmL Wt Bi S inner cols D.length) w' := by
  obtain ⟨r1, rb1⟩ := m.row dn gd D d1 d2
  obtain ⟨r2, rb2⟩ := m.row sn gc S s1 s2
  have m0 := m.m0
  have hdl : dn < gs.length := (List.getElem?_eq_some_iff.1 d1).1
  have hsl : sn < gs.length := (List.getElem?_eq_some_iff.1 s1).1
  have hcap := m.cap
  have mlt := m.mlt
  have blt := m.blt
  have hgs := m.ne d1 s1 hne
  have hMgd : M ≠ gd := fun e => m.nM (e ▸ List.mem_of_getElem? d1)
  have hBgd : B ≠ gd := fun e => m.nB (e ▸ List.mem_of_getElem? d1)
  have HDl := Lib.hid hDl
  have HSl := Lib.hid hSl
  have HWl := Lib.hid hWl
  have HW := Lib.hid hW
  have HB := Lib.hid hB
  have HF := Lib.hid hF
  have HTm := Lib.hid hm
  have HT2 := Lib.hid ht2
  obtain ⟨z1, z2, z3⟩ := hz
  obtain ⟨t1, t2⟩ := ht1
  have HS1 := Lib.hid s1
  have HD1 := Lib.hid d1
  have HS2 := Lib.hid s2
  have HD2 := Lib.hid d2
  clear hDl hSl hWl hW hB hF hm ht2 s1 s2 d1 d2
  refine (callsIn_wide (n := 5)).1 ?_
  refine callsIn_of_wp_marks Tryz.func18 rfl trivial ?_ rfl
  refine wpIn_wide.2 ?_
  simp only [Tryz.ntmps18, List.size_toArray, List.length_cons, List.length_nil, Nat.reduceAdd, Nat.reduceSub, Array.replicate_succ, Array.replicate_zero, List.push_toArray, List.append_toArray, List.nil_append, List.cons_append]
  go_upto_region 1 with fail
  have hbx := Box11.alloc w (.int .i64 2) (.int .i64 (dn : Int)) (.int .i64 (sn : Int)) (.int .i64 ot) (.int .i64 (cols : Int)) (.int .i64 (inner : Int)) (.slice a1 l1 c1) (.slice a2 Wt.length c2) (.slice a3 Bi.length c3) (.int .i64 mu) (.int .i64 sh) 40
  have hb1 : Below w.heap.size w (w.alloc (.cells #[.int .i64 2, .int .i64 (dn : Int), .int .i64 (sn : Int), .int .i64 ot, .int .i64 (cols : Int), .int .i64 (inner : Int), .slice a1 l1 c1, .slice a2 Wt.length c2, .slice a3 Bi.length c3, .int .i64 mu, .int .i64 sh] 40)) := (Below.refl _ _).alloc (Nat.le_refl _) _
  have hmW := m.below hb1
  have y0 := (hb1.cell mlt).trans m0
  have y1 := (hb1.cell blt).trans r1
  have y2 := (hb1.cell blt).trans r2
  have hMB : M < (w.alloc (.cells #[.int .i64 2, .int .i64 (dn : Int), .int .i64 (sn : Int), .int .i64 ot, .int .i64 (cols : Int), .int .i64 (inner : Int), .slice a1 l1 c1, .slice a2 Wt.length c2, .slice a3 Bi.length c3, .int .i64 mu, .int .i64 sh] 40)).heap.size := by simp; omega
  have hBB : B < (w.alloc (.cells #[.int .i64 2, .int .i64 (dn : Int), .int .i64 (sn : Int), .int .i64 ot, .int .i64 (cols : Int), .int .i64 (inner : Int), .slice a1 l1 c1, .slice a2 Wt.length c2, .slice a3 Bi.length c3, .int .i64 mu, .int .i64 sh] 40)).heap.size := by simp; omega
  have hgB : w.heap.size < (w.alloc (.cells #[.int .i64 2, .int .i64 (dn : Int), .int .i64 (sn : Int), .int .i64 ot, .int .i64 (cols : Int), .int .i64 (inner : Int), .slice a1 l1 c1, .slice a2 Wt.length c2, .slice a3 Bi.length c3, .int .i64 mu, .int .i64 sh] 40)).heap.size := by simp
  generalize w.alloc (.cells #[.int .i64 2, .int .i64 (dn : Int), .int .i64 (sn : Int), .int .i64 ot, .int .i64 (cols : Int), .int .i64 (inner : Int), .slice a1 l1 c1, .slice a2 Wt.length c2, .slice a3 Bi.length c3, .int .i64 mu, .int .i64 sh] 40) = W at *
  have z1 := hbx.c1
  have z2 := hbx.c2
  have HBx := Lib.hid hbx
  have HB1 := Lib.hid hb1
  have HMW := Lib.hid hmW
  have RB1 := Lib.hid rb1
  have RB2 := Lib.hid rb2
  clear m0 r1 r2 rb1 rb2 hbx hb1 hmW m
  go_cut [4, 5] from 24 to 39 (fun s4 s5 wx => DoCut W (.slice (some ⟨gd, 0, none⟩) D.length D.length) (.slice (some ⟨gc, 0, none⟩) S.length S.length) s4 s5 wx)
  case first =>
    go_region_held3 (fun w' => w'.cell? ⟨M, 0, none⟩ = some (.slice (some ⟨B, 0, none⟩) gs.length cap) ∧ w'.cell? ⟨w.heap.size, 1, none⟩ = some (.int .i64 (dn : Int)) ∧ w'.cell? ⟨w.heap.size, 2, none⟩ = some (.int .i64 (sn : Int)) ∧ w'.cell? ⟨B, dn, none⟩ = some (.slice (some ⟨gd, 0, none⟩) D.length D.length) ∧ w'.cell? ⟨B, sn, none⟩ = some (.slice (some ⟨gc, 0, none⟩) S.length S.length))
      (first
        | exact ⟨y0, z1, z2, y1, y2⟩
        | exact S5_alloc hMB hgB hBB y0 z1 z2 y1 y2
        | exact S5_alloc2 hMB hgB hBB y0 z1 z2 y1 y2
        | (refine ⟨?_, ?_, ?_, ?_, ?_⟩ <;> simp_all))
      (fail)
    all_goals (go_wp2_with fail; go_meet)
    all_goals first | exact DoCut.mk1 _ _ _ _ | exact DoCut.mk2 _ _ _ _
  case rest =>
    obtain ⟨g4, g5, rfl, rfl, p4, p5, hbw, q4, q5, q6, q7⟩ := hcut
    have HUB := Lib.hid (HBx.out.below hbw)
    obtain ⟨u0, u1, u2, u3, u4, u5, u6, u7, u8, u9, u10, ult⟩ := HUB.out
    have hgd : gd < W.heap.size := Nat.lt_of_lt_of_le RB1.out.lt HB1.out.size
    have HIS := Lib.hid ((RB2.out.below HB1.out).below hbw)
    have HID := Lib.hid ((RB1.out.below HB1.out).below hbw)
    have HBW := Lib.hid (HB1.out.trans (hbw.mono HB1.out.size))
    have HMc := Lib.hid (HMW.out.below hbw)
    have mm1 := HMc.out.m1
    have mm2 := HMc.out.m2
    clear y0 y1 y2 z1 z2 hMB hgB hBB hbw
    go_wp2
    go_quiet (fail)
    go_upto_if 74 with fail
    obtain ⟨wo, hwo⟩ : ∃ wo : World, wo = wc := ⟨_, rfl⟩
    subst hwo
    go_cut [9, 10] from 74 to 82 (fun s9 s10 wx => s9 = .int .i64 (th : Int) ∧ s10 = .int .i64 (tw : Int) ∧ Hid (∃ n, wx = wo.drewN n))
    case first =>
      rcases HTm.out with ⟨rfl, rfl, rfl⟩ | ⟨rfl, rfl⟩
      · go_wp2
        go_meet
        exact ⟨rfl, rfl, _, rfl⟩
      · have hth : (0 : Int) < th := by omega
        go_wp2
        go_quiet (fail)
        go_wp2
        go_meet
        exact ⟨rfl, rfl, _, World.drewN_drewN _ _ _⟩
    case rest =>
      obtain ⟨rfl, rfl, HN⟩ := hcut
      obtain ⟨nd, rfl⟩ := HN.out
      have hbd : Below wo.heap.size wo (wo.drewN nd) := ⟨rfl, rfl, rfl, Nat.le_refl _, fun _ _ => rfl⟩
      have HIS1 := Lib.hid (HIS.out.below hbd)
      have HID1 := Lib.hid (HID.out.below hbd)
      have HU1 := Lib.hid (HUB.out.below hbd)
      have HBW1 := Lib.hid (HBW.out.trans (hbd.mono HBW.out.size))
      have P4 := Lib.hid ((hbd.cell (p := ⟨g4, 0, none⟩) q6).trans p4)
      have P5 := Lib.hid ((hbd.cell (p := ⟨g5, 0, none⟩) q7).trans p5)
      have Q6 : g4 < (wo.drewN nd).heap.size := q6
      have Q7 : g5 < (wo.drewN nd).heap.size := q7
      have UL : w.heap.size < (wo.drewN nd).heap.size := ult
      have HSZ : Hid (W.heap.size ≤ (wo.drewN nd).heap.size) := by unfold Hid; show W.heap.size ≤ wo.heap.size; omega
      clear hbd HN p4 p5 q6 q7 ult HIS HID HUB HBW u0 u1 u2 u3 u5 u6 u7 u8 u9 u10 HMc mm1 mm2
      generalize wo.drewN nd = w1 at *
      have u4 := HU1.out.c4
      go_wp2_with fail
      refine (tTiles _ _ _ _ _).mono ?_
      rintro e w5 ⟨rfl, hw5⟩
      have HW5 := Lib.hid hw5
      have hsz5 : w5.heap.size = w1.heap.size + 4 := by rw [hw5]; simp
      have hb5 : Below w1.heap.size w1 w5 := by
        rw [hw5]
        exact (((((Below.refl _ w1).alloc (Nat.le_refl _) _).alloc (by simp) _).alloc (by simp; omega) _).alloc (by simp; omega) _)
      have hbx : w5.cell? ⟨w1.heap.size, 0, none⟩ = some (.int .i64 (Bi.length : Int)) ∧ w5.cell? ⟨w1.heap.size + 1, 0, none⟩ = some (.int .i64 (cols : Int)) ∧ w5.cell? ⟨w1.heap.size + 2, 0, none⟩ = some (.int .i64 (th : Int)) ∧ w5.cell? ⟨w1.heap.size + 3, 0, none⟩ = some (.int .i64 (tw : Int)) := by
        rw [hw5]
        refine ⟨?_, ?_, ?_, ?_⟩
        · exact cellOf (show ((((w1.heap.push _).push _).push _).push _)[_]? = _ from by simp only [Array.getElem?_push, Array.size_push]; rw [if_neg (by omega), if_neg (by omega), if_neg (by omega), if_pos (by first | trivial | omega)])
        · exact cellOf (show ((((w1.heap.push _).push _).push _).push _)[_]? = _ from by simp only [Array.getElem?_push, Array.size_push]; rw [if_neg (by omega), if_neg (by omega), if_pos (by first | trivial | omega)])
        · exact cellOf (show ((((w1.heap.push _).push _).push _).push _)[_]? = _ from by simp only [Array.getElem?_push, Array.size_push]; rw [if_neg (by omega), if_pos (by first | trivial | omega)])
        · exact cellOf (show ((((w1.heap.push _).push _).push _).push _)[_]? = _ from by simp only [Array.getElem?_push, Array.size_push]; rw [if_pos (by first | trivial | omega)])
      obtain ⟨x0, x1, x2, x3⟩ := hbx
      have gdl : gd < w1.heap.size := HID1.out.lt
      have hit := tilesIter Fence.wide (5 - 1) trivial rfl (by omega) w1.heap.size Bi.length cols th tw hr1 hc1 t1 t2 (by omega) (by omega) HT2.out.1 HT2.out.2
        (fun b => b < w5.heap.size ∧ b ≠ gd) ⟨by omega, by omega⟩ ⟨by omega, by omega⟩ ⟨by omega, by omega⟩ ⟨by omega, by omega⟩ w5 x0 x1 x2 x3
      have HID5 := Lib.hid (HID1.out.below hb5)
      have HIS5 := Lib.hid (HIS1.out.below hb5)
      have HU5 := Lib.hid (HU1.out.below hb5)
      have HBW5 := Lib.hid (HBW1.out.trans (hb5.mono HBW1.out.size))
      have P45 := Lib.hid ((hb5.cell (p := ⟨g4, 0, none⟩) Q6).trans P4.out)
      have P55 := Lib.hid ((hb5.cell (p := ⟨g5, 0, none⟩) Q7).trans P5.out)
      clear hw5 x0 x1 x2 x3 u4
      go_wp2_with fail
      refine (wpIn_wide (n := 5)).1 ?_
      refine wpIn_iter rfl (by omega) (gf := 43) (lb := _) rfl trivial (enters_of Tryz.func43 (by kernel_rfl) rfl) hit (fun b hb => hb.1)
        (fun k xs _ h => by rw [h]; rfl)
        (fun k V => IBlk V gd (updL (covT Bi.length cols th tw k) (gemmAt Wt Bi S inner cols) D))
        (fun _ _ => False)
        (fun k A B row h hg hr => ⟨_, own_block A B row h.choose_spec hg hr⟩)
        (fun _ _ _ _ _ h _ _ => h)
        (by rw [updL_none (fun q _ => covT_zero _ _ _ _ q)]; exact HID5.out) ?body ?done ?stop
      case stop => intro D c V _ h; exact h.elim
      case done =>
        rintro Db V hDb hI hH hK
        have HKk := Lib.hid hK
        have HHh := Lib.hid hH
        have HI := Lib.hid hI
        clear hK hH hI
        gi_wp2
        refine ⟨by simp, .inl ⟨_, _, rfl, run_takeDeferred HKk.out, ?_⟩⟩
        refine ⟨_, results_none rfl _ _ _, ?_⟩
        have hge : gd ≠ Db := by omega
        refine ⟨⟨_, rfl⟩, DoRet.of RB1.out (v0 := D) ?_ ?_⟩
        · have h1 := HBW5.out
          have h2 := HHh.out
          refine ⟨h2.os.trans h1.os, h2.tape.trans h1.tape, h2.output.trans h1.output, ?_, fun b hb => ?_⟩
          · have := h1.size; have := h2.size; simp; omega
          · have hs := h1.size
            rw [World.putObj_heap_other (by omega)]
            exact (h2.block b ⟨by omega, hb.2⟩).trans (h1.block b hb.1)
        · have h3 := HI.out
          rw [updL_all (fun q hq => covT_end hr1 hc1 t1 t2 (by rw [← HDl.out]; exact hq))] at h3
          obtain ⟨T, h3⟩ := h3
          exact ⟨T, (World.putObj_heap_other hge).trans h3⟩
      case body =>
        rintro l k xs V hI hk rfl hH
        have hnc : 1 ≤ cutN cols (min tw cols) := cutN_pos (by omega) hc1
        have hi : k / cutN cols (min tw cols) < cutN Bi.length (min th Bi.length) := (Nat.div_lt_iff_lt_mul (by omega)).2 hk
        have hj : k % cutN cols (min tw cols) < cutN cols (min tw cols) := Nat.mod_lt _ (by omega)
        have HE := Lib.hid ((updL_updL (inTile cols (cutAt Bi.length th (k / cutN cols (min tw cols))) (cutAt cols tw (k % cutN cols (min tw cols))) (min th (Bi.length - cutAt Bi.length th (k / cutN cols (min tw cols)))) (min tw (cols - cutAt cols tw (k % cutN cols (min tw cols))))) (covT Bi.length cols th tw k) (gemmAt Wt Bi S inner cols) D).trans (updL_congr (fun q _ => (covT_succ Bi.length cols th tw k q).symm)))
        have k1 := (cut_step (n := Bi.length) (h := th) hr1 t1 hi).1
        have k2 := (cut_step (n := cols) (h := tw) hc1 t2 hj).1
        have b1 : cutAt Bi.length th (k / cutN cols (min tw cols)) + min th (Bi.length - cutAt Bi.length th (k / cutN cols (min tw cols))) ≤ Bi.length := by omega
        have b2 : cutAt cols tw (k % cutN cols (min tw cols)) + min tw (cols - cutAt cols tw (k % cutN cols (min tw cols))) ≤ cols := by omega
        have HI := Lib.hid hI
        have HH := Lib.hid hH
        simp only [tileV]
        clear hI hH hit hi hj
        generalize min th (Bi.length - cutAt Bi.length th (k / cutN cols (min tw cols))) = q1 at *
        generalize min tw (cols - cutAt cols tw (k % cutN cols (min tw cols))) = q2 at *
        generalize cutAt Bi.length th (k / cutN cols (min tw cols)) = r0 at *
        generalize cutAt cols tw (k % cutN cols (min tw cols)) = c0 at *
        gi_wp2
        have hHa : Held (fun b => b < w5.heap.size ∧ b ≠ gd) V (V.alloc (.cells #[.int .i64 r0, .int .i64 c0, .int .i64 q1, .int .i64 q2] 65)) := (Held.refl _ V).alloc (fun b hb => by have := HH.out.size; omega) _
        refine ⟨KeepsOthers.alloc _ _, hHa, fun A => IBlk A gd (updL (covT Bi.length cols th tw k) (gemmAt Wt Bi S inner cols) D) ∧ A.heap[V.heap.size]? = some (.cells #[.int .i64 r0, .int .i64 c0, .int .i64 q1, .int .i64 q2] 65 (0, 0)),
          fun _ A B row h hg hr => ⟨⟨_, own_block A B row h.1.choose_spec hg hr⟩, own_block A B row h.2 hg hr⟩,
          ⟨HI.out.below ((Below.refl _ V).alloc (Nat.le_refl _) _), heap_alloc_new V _⟩, ?_⟩
        rintro W2 ⟨hiv, hbx⟩ hH2
        have HIV := Lib.hid hiv
        have HBX := Lib.hid hbx
        have HH2 := Lib.hid hH2
        obtain ⟨b0, b1', b2', b3⟩ := cellOf4 hbx
        have hs5 : w1.heap.size + 4 ≤ V.heap.size := by have := HH.out.size; omega
        have hs1 := HBW1.out.size
        have hg4 := (hH2.cell (p := ⟨g4, 0, none⟩) ⟨by simp; omega, by simp; omega⟩).trans P45.out
        have hg5 := (hH2.cell (p := ⟨g5, 0, none⟩) ⟨by simp; omega, by simp; omega⟩).trans P55.out
        have hwg : w.heap.size ≠ gd := by have := RB1.out.lt; omega
        have HUW : Hid (∀ i, W2.cell? ⟨w.heap.size, i, none⟩ = w5.cell? ⟨w.heap.size, i, none⟩) := fun i => hH2.cell (p := ⟨w.heap.size, i, none⟩) ⟨by simp; omega, hwg⟩
        have u0 := (HUW.out 0).trans HU5.out.c0
        have u1 := (HUW.out 1).trans HU5.out.c1
        have u2 := (HUW.out 2).trans HU5.out.c2
        have u3 := (HUW.out 3).trans HU5.out.c3
        have u4 := (HUW.out 4).trans HU5.out.c4
        have u5 := (HUW.out 5).trans HU5.out.c5
        have u6 := (HUW.out 6).trans HU5.out.c6
        have u7 := (HUW.out 7).trans HU5.out.c7
        have u8 := (HUW.out 8).trans HU5.out.c8
        have u9 := (HUW.out 9).trans HU5.out.c9
        have u10 := (HUW.out 10).trans HU5.out.c10
        clear hiv hbx hH2 hHa
        gi_wp2
        have hHw : Held (fun b => b < w.heap.size ∧ b ≠ gd) w W2 := (Held.of_below HBW5.out (fun b hb => hb.1)).trans (HH2.out.mono (fun b hb => ⟨Nat.lt_of_lt_of_le hb.1 HBW5.out.size, hb.2⟩))
        have hIS2 : IBlk W2 gc S := ⟨_, (HH2.out.block gc ⟨HIS5.out.lt, hgs⟩).trans HIS5.out.choose_spec⟩
        have hk := kGemm HIV.out hIS2 hgs 2 dn sn ot mu sh a1 a2 a3 l1 c1 c2 c3 (HW.out.held HF.out hHw) (HB.out.held HF.out hHw) HF.out Bi.length cols inner r0 c0 q1 q2 rfl (by rw [updL_len]; exact HDl.out) HSl.out HWl.out b1 b2 ⟨z1, z2, z3⟩
        rw [updL_len] at hk
        refine ⟨trivial, callsIn_round9 ((callsIn_wide.2 hk).mono ?_)⟩
        rintro e w' ⟨⟨v, rfl⟩, hR⟩
        have HR := Lib.hid hR
        clear hk hR
        gi_wp2
        have hRh := HR.out.held
        refine ⟨⟨hRh.size, fun k' o ho hc => ?_⟩, hRh.mono (fun b hb => ⟨Nat.lt_of_lt_of_le hb.1 HH2.out.size, hb.2⟩), ?_⟩
        · refine (hRh.block k' ⟨(Array.getElem?_eq_some_iff.1 ho).1, ?_⟩).trans ho
          rintro rfl
          obtain ⟨T, hT⟩ := HIV.out
          rw [hT] at ho
          cases ho
          simp [Obj.isCells] at hc
        · rw [← HE.out]
          exact HR.out.blk

end Go.Proofs.YthlmgejikbmmaaaGreat

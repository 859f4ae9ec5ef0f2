/-
  Contracts of the functions that the statements reach, in the order in which they are built: RKJ.
-/
import Derived.Test.YthlmgejikbmmaaaGreatM23
import Derived.Test.YthlmgejikbmmaaaGreatM25
import Derived.Test.YthlmgejikbmmaaaGreatM22
import Derived.Test.YthlmgejikbmmaaaGreatM17
import Derived.Test.YthlmgejikbmmaaaGreatM26
set_option linter.unusedVariables false
set_option linter.unusedSimpArgs false
set_option linter.constructorNameAsVariable false
set_option linter.deprecated false

/-
  The reference's Buffers of layer 54: by contract.
-/
namespace Go.Proofs.YthlmgejikbmmaaaGreat
open Go.RowKit

theorem Ints.src1 {w : World} {F : Nat → Prop} {a : Option Addr} {l : List Int} (h : Ints w F a l) : SrcOK w a l.length 1 (l.map (Value.int .i64)) := by
  refine ⟨by simp, ?_, fun hp => ?_⟩
  · intro u hu
    obtain ⟨x, _, rfl⟩ := List.mem_map.1 hu
    rfl
  · rcases h.row with rfl | ⟨b, off, rfl, _, hb, hc⟩
    · simp at hp
    · refine ⟨b, off, rfl, hb, fun j u hu => ?_⟩
      rw [List.getElem?_map] at hu
      obtain ⟨d, hd, rfl⟩ := Option.map_eq_some_iff.1 hu
      exact hc j d hd
/-- A row of integers of the call's own, as a row at the beginning of a block. -/
theorem RBlk.own {w : World} {base E : Nat} {v : Value} {l : List Int} (h : w.ownsRow base E 1 v l.length (l.map (Value.int .i64))) (hp : 0 < l.length) : ∃ g c, v = .slice (some ⟨g, 0, none⟩) l.length c ∧ l.length ≤ c ∧ v.ownBlock = some g ∧ RBlk w g l := by
  rcases h.2 with ⟨_, hn⟩ | ⟨g, cap, cur, rfl, hb, hg, hnc, _⟩
  · omega
  · refine ⟨g, cap, rfl, hnc, rfl, (Array.getElem?_eq_some_iff.1 hg).1, fun x hx => ?_, fun x => by simp [World.frozen?, hg]⟩
    have := h.cells (g := g) rfl x (.int .i64 (l.getD x 0)) (by rw [List.getElem?_map, getD_at hx]; rfl)
    simpa [Addr.add_lit] using this
theorem RowsM.grown {w w' : World} {B : Nat} {gs : List Nat} {vs : List (List Int)} {row : Option Nat} (h : RowsM w B gs vs) (hg : w.grownBy w' row) (hB : row ≠ some B) (hn : ∀ g ∈ gs, row ≠ some g) : RowsM w' B gs vs := by
  have hb : w'.heap[B]? = w.heap[B]? := hg.block B h.blt (fun e => hB e.symm)
  exact ⟨Nat.lt_of_lt_of_le h.blt hg.size, fun x => (World.frozen?_of_block (w := w) (a := ⟨B, x, none⟩) hb).trans (h.bfree x), h.len,
    fun j g v h1 h2 => let ⟨⟨c, q1, q2⟩, q3⟩ := h.row j g v h1 h2; ⟨⟨c, q1, (World.cell?_of_block (w := w) (a := ⟨B, j, none⟩) hb).trans q2⟩, q3.grown hg (hn g (List.mem_of_getElem? h1))⟩, h.nodup, h.nB⟩
theorem Tryz.infoI64K : (Tryz.prog.info? 2).map (fun i => (i.zero, i.size, i.bytes)) = some (some (.int .i64 0), 1, 8) := by kernel_rfl

theorem hpE (w : World) (o : Obj) : (w.alloc o).heap[w.heap.size]? = some o := by
  show (w.heap.push o)[w.heap.size]? = _
  rw [Array.getElem?_push, if_pos rfl]
theorem MkI.rows' {w0 w : World} {E : TypeId} {v : Value} {gs ns : List Nat} {j : Nat} (h : MkI w0 w E v gs ns j) (hj : j = ns.length) (hpos : 0 < ns.length) : ∃ B cap, v = .slice (some ⟨B, 0, none⟩) j cap ∧ w0.heap.size ≤ B ∧ j ≤ cap ∧ RowsM w B gs (ns.map fun n => List.replicate n 0) := by
  subst hj; exact h.rows hpos
/-- The rows, all older than a world. -/
structure RowsE (w0 w : World) (B : Nat) (gs : List Nat) (vs : List (List Int)) : Prop where
  rows : RowsM w B gs vs
  pos : 0 < vs.length
  ltB : B < w0.heap.size
  lt : ∀ g ∈ gs, g < w0.heap.size
theorem RowsE.mk' {w : World} {B : Nat} {gs : List Nat} {vs : List (List Int)} (h : RowsM w B gs vs) (hp : 0 < vs.length) : RowsE w w B gs vs :=
  ⟨h, hp, h.blt, fun g hg => by
    obtain ⟨j, hj⟩ := List.getElem?_of_mem hg
    have hlt := (List.getElem?_eq_some_iff.1 hj).1
    have hv : vs[j]? = some (vs[j]'(by rw [← h.len]; exact hlt)) := List.getElem?_eq_getElem _
    exact (h.row j g _ hj hv).2.lt⟩
theorem RowsE.grow {w w' : World} {B : Nat} {gs : List Nat} {vs : List (List Int)} {o : Obj} {n : Nat} (h : RowsE w w B gs vs) (hg : (w.alloc o).grownBy w' (Value.slice (some ⟨w.heap.size, 0, none⟩) 0 n).ownBlock) : RowsE w w' B gs vs :=
  ⟨(h.rows.below ((Below.refl _ _).alloc (Nat.le_refl _) o)).grown hg (fun e => by have := h.ltB; simp [Value.ownBlock] at e; omega) (fun g hm e => by have := h.lt g hm; simp [Value.ownBlock] at e; omega), h.pos, h.ltB, h.lt⟩
theorem RowsE.cells {w0 w : World} {B : Nat} {gs : List Nat} {vs : List (List Int)} (h : RowsE w0 w B gs vs) : ∃ old, w.cell? ⟨B, 0, none⟩ = some old ∧ w.frozen? ⟨B, 0, none⟩ = false := by
  have hp := h.pos
  have hg : gs[0]? = some (gs.getD 0 0) := by rw [List.getD_eq_getElem?_getD, List.getElem?_eq_getElem (by rw [h.rows.len]; exact hp)]; rfl
  have hv : vs[0]? = some (vs.getD 0 []) := by rw [List.getD_eq_getElem?_getD, List.getElem?_eq_getElem hp]; rfl
  obtain ⟨⟨c, _, q⟩, _⟩ := h.rows.row 0 _ _ hg hv
  exact ⟨_, q, h.rows.bfree 0⟩

/-- What Buffers leaves. -/
def XBufPost (w : World) (k : KerL) (inp : List Int) (e : Ending) (w' : World) : Prop :=
  (validK k = true ∧ (inp.length : Int) = k.sizes.getD 0 0 ∧ Below w.heap.size w w' ∧ ∃ B cap gs, e = .returned (.tuple #[.slice (some ⟨B, 0, none⟩) k.sizes.length cap, .int .i64 0]) ∧ gs.length = k.sizes.length ∧ RowsM w' B gs (runL k inp k.ops.length)) ∨
  (validK k = true ∧ ¬ (inp.length : Int) = k.sizes.getD 0 0 ∧ Below w.heap.size w w' ∧ e = .returned (.tuple #[.slice none 0 0, .int .i64 11])) ∨
  (validK k = false ∧ Below w.heap.size w w' ∧ e = .returned (.tuple #[.slice none 0 0, .int .i64 1]))

set_option maxRecDepth 100000 in
set_option maxHeartbeats 3200000 in
theorem xBuffers {w : World} {v : Value} {k : KerL} (hv : KerV w v k) (hwf : k.WF) (hs1 : ∀ x ∈ k.lo, RatLe x 4) (hs2 : ∀ x ∈ k.hi, RatLe x 4) (hs3 : ∀ x ∈ k.err, RatLe x 4) {inp : List Int} {ai : Option Addr} {ci : Nat} (hin : Ints w Any ai inp) :
    Calls Tryz.prog 7 #[v, .slice ai inp.length ci] w (XBufPost w k inp) := by
  have HKV := Lib.hid hv
  obtain ⟨a1, a2, a3, a4, a5, c1, c2, c3, c4, c5, rfl, _⟩ := hv.ex
  have HIN := Lib.hid hin
  have HWF := Lib.hid hwf
  have HS1 := Lib.hid hs1
  have HS2 := Lib.hid hs2
  have HS3 := Lib.hid hs3
  have hil := hin.len
  clear hv hin hwf hs1 hs2 hs3
  go_enter Tryz.func7, Tryz.ntmps7
  go_upto_region 1 with fail
  have hbx := Box8.alloc w (.slice a1 k.sizes.length c1) (.slice a2 k.ops.length c2) (.int .i64 k.output) (.int .i64 k.inShift) (.int .i64 k.outShift) (.slice a3 k.lo.length c3) (.slice a4 k.hi.length c4) (.slice a5 k.err.length c5) 26
  have hb1 : Below w.heap.size w (w.alloc (.cells #[.slice a1 k.sizes.length c1, .slice a2 k.ops.length c2, .int .i64 k.output, .int .i64 k.inShift, .int .i64 k.outShift, .slice a3 k.lo.length c3, .slice a4 k.hi.length c4, .slice a5 k.err.length c5] 26)) := (Below.refl _ w).alloc (Nat.le_refl _) _
  generalize w.alloc (.cells #[.slice a1 k.sizes.length c1, .slice a2 k.ops.length c2, .int .i64 k.output, .int .i64 k.inShift, .int .i64 k.outShift, .slice a3 k.lo.length c3, .slice a4 k.hi.length c4, .slice a5 k.err.length c5] 26) = W at *
  have HBx := Lib.hid hbx
  have HB1 := Lib.hid hb1
  obtain ⟨x0, x1, x2, x3, x4, x5, x6, x7, xlt⟩ := hbx
  clear hb1
  go_wp2_with fail
  refine (xValid (HKV.out.below HB1.out) HWF.out HS1.out HS2.out HS3.out).mono ?_
  rintro e w2 ⟨rfl, hb2⟩
  have HB2 := Lib.hid (HB1.out.trans (hb2.mono HB1.out.size))
  have HBx2 := Lib.hid (HBx.out.below hb2)
  obtain ⟨y0, y1, y2, y3, y4, y5, y6, y7, ylt⟩ := HBx2.out
  clear hb2 x0 x1 x2 x3 x4 x5 x6 x7 xlt HBx
  cases hq : validK k with
  | false =>
    have HQ := Lib.hid hq
    clear hq
    go_wp2
    go_ret2
    exact .inr (.inr ⟨HQ.out, HB2.out, rfl⟩)
  | true =>
    have HQ := Lib.hid hq
    clear hq
    obtain ⟨g1, g2, g3, _⟩ := validK_parts HQ.out
    obtain ⟨g1a, g1b⟩ := wthn_iff.1 g1
    have hpos : 0 < k.sizes.length := by omega
    have HAll := Lib.hid g3
    obtain ⟨b1, b2, b3, b4, b5, e1, e2, e3, e4, e5, ee, I1, I2, I3, I4, I5⟩ := (HKV.out.below HB2.out).ex
    cases ee
    have J1 := Lib.hid I1
    have J2 := Lib.hid I2
    have JI := Lib.hid (HIN.out.below HB2.out)
    obtain ⟨bz, oz, rfl, _, hbz, hcz⟩ := I1.cells hpos
    have z0 := hcz 0 hpos
    rw [Nat.add_zero] at z0
    clear I1 I2 I3 I4 I5 hcz g1 g3
    generalize hs0 : k.sizes.getD 0 0 = s0 at *
    by_cases hl : (inp.length : Int) = s0
    · have n1 : ((inp.length : Int) != s0) = false := by rw [hl]; simp
      have n2 : decide (¬ (inp.length : Int) = s0) = false := by simp only [hl, not_true_eq_false, decide_false]
      have n3 : ((inp.length : Int) == s0) = true := by rw [beq_iff_eq]; exact hl
      have HL := Lib.hid hl
      have HS0 := Lib.hid hs0
      clear hl hs0
      go_wp2
      go_loopw [6, 7] (fun u i wr => ∃ (j : Nat) (gs : List Nat), j ≤ k.sizes.length ∧ i = .int .i64 (j : Int) ∧ Hid (MkI w2 wr 27 u gs (k.sizes.map Int.toNat) j)) (fun _ i _ => k.sizes.length - (intOf i).toNat)
      case atStart => exact ⟨0, [], Nat.zero_le _, rfl, MkI.start _ _ _⟩
      case round =>
        clear y0 y1 y2 y3 y4 y5 y6 y7 ylt z0
        obtain ⟨j, gs, hj, rfl, HMk⟩ := hrel
        have hbw := HMk.out.bl
        obtain ⟨y0, y1, y2, y3, y4, y5, y6, y7, ylt⟩ := HBx2.out.below hbw
        by_cases hlt : j < k.sizes.length
        · obtain ⟨b', o', e', _, hb', hc'⟩ := (J1.out.below hbw).cells hlt
          cases e'
          have hr := sizes_range HAll.out (j : Int) (by omega) (by omega)
          rw [Int.toNat_natCast] at hr
          obtain ⟨n, hn⟩ : ∃ n : Nat, k.sizes.getD j 0 = (n : Int) := ⟨(k.sizes.getD j 0).toNat, by omega⟩
          have cj := hc' j hlt
          rw [hn] at cj hr
          have hnj : Hid ((k.sizes.map Int.toNat)[j]? = some n) := by unfold Hid; rw [List.getElem?_map, getD_at hlt, hn]; rfl
          have hmk := mkI64 n (by omega)
          have hws := hbw.size
          clear hc' hn hbw
          go_wp2_with (at_builtin; refine wpList_app1 rfl (.tmp 28) (.tmp 35) 30 rfl w2.heap.size 27 (.slice none 0 0) 24 Tryz.underlying30 Tryz.infoSl64 rfl _ j _ rfl (HMk.out.own.alloc _) (.slice (some ⟨wr.heap.size, 0, none⟩) n n) rfl (show Value.slice (some ⟨wr.heap.size + 1, 0, none⟩) 1 1 = .slice (some ⟨(wr.alloc (.cells (madeCells #[.int .i64 0] n) 2)).heap.size, 0, none⟩) 1 1 by simp) (by omega) (by unfold maxLen; omega) (Nat.le_trans hws (by simp)) ?_; intro v' w' hown hg hn2; have HOwn := Lib.hid hown; have HG := Lib.hid hg; have HN2 := Lib.hid hn2; clear hown hg hn2)
          have hst := HMk.out.step hnj.out HOwn.out HG.out HN2.out
          have HSt := Lib.hid hst
          clear hst
          go_roundw
          case rel => exact ⟨j + 1, _, hlt, by go_num, HSt.out⟩
          case measure => simp [intOf]; omega
        · obtain rfl : j = k.sizes.length := by omega
          obtain ⟨B, cap, hu, hB, hcap, hrows⟩ := HMk.out.rows' (by rw [List.length_map]) (by rw [List.length_map]; exact hpos)
          subst hu
          have hr := sizes_range HAll.out (0 : Int) (by omega) (by omega)
          rw [show ((0 : Int).toNat) = 0 from rfl, HS0.out, ← HL.out] at hr
          obtain ⟨ip1, ip2⟩ : 1 ≤ inp.length ∧ inp.length ≤ 262144 := by omega
          have HBe := RowsE.mk' hrows (by simpa using hpos)
          have HJ := Lib.hid (JI.out.below hbw).src1
          have HHb := Lib.hid hbw
          have HGe := Lib.hid hB
          have hz0 : (0 : Int) < (k.sizes.length : Int) := by omega
          have HLt := Lib.hid (fun q (h : q ∈ gs) => (HMk.out.lt q h).1)
          clear hrows HMk hr
          go_wp2_with (at_builtin; refine wpList_append_src rfl (.tmp 38) (.tmp 39) 27 27 rfl w2.heap.size 2 (.int .i64 0) 1 8 Tryz.underlying27 Tryz.underlying27 Tryz.infoI64K rfl (by omega) (.slice (some ⟨wr.heap.size, 0, none⟩) 0 0) 0 [] rfl (own_empty (hpE wr _) HHb.out.size) ai inp.length ci _ rfl (HJ.out.below ((Below.refl wr.heap.size wr).alloc (Nat.le_refl _) _)) (by omega) (by unfold maxLen; omega) (by have := HHb.out.size; simp; omega) ?_; intro v' w' hown hg hn2; obtain ⟨g, cg, rfl, hcg, hob, hblk⟩ := RBlk.own (l := inp) (by simpa using hown) (by omega); have HE2 := HBe.grow hg; obtain ⟨old, z1, z2⟩ := HE2.cells; have HE3 := Lib.hid HE2; have HBlk := Lib.hid hblk; have HG := Lib.hid hg; have HN2 := Lib.hid hn2; clear hown hg hn2 hblk HE2)
          have hge : wr.heap.size ≤ g := by
            rcases HN2.out with h | ⟨q, h1, h2⟩
            · rw [h] at hob; simp [Value.ownBlock] at hob; omega
            · rw [h1] at hob; have := Option.some.inj hob; simp at h2; omega
          have HRun : Hid (RowsM (w'.setCell ⟨B, 0, none⟩ (.slice (some ⟨g, 0, none⟩) inp.length cg)) B (gs.set 0 g) (runL k inp 0) ∧ Below w2.heap.size w2 (w'.setCell ⟨B, 0, none⟩ (.slice (some ⟨g, 0, none⟩) inp.length cg))) := by
            refine ⟨?_, ?_⟩
            · have h := HE3.out.rows.swap (d := 0) (g := g) (c := cg) (v := inp) (by rw [HE3.out.rows.len]; exact HE3.out.pos) HBlk.out hcg (fun e => by have := HE3.out.ltB; omega) (fun hm => by have := HE3.out.lt g hm; omega) z1
              rw [List.map_map] at h
              exact h
            · exact (((HHb.out.trans (((Below.refl wr.heap.size wr).alloc (Nat.le_refl _) _).mono HHb.out.size))).grown HG.out (by have := HHb.out.size; simp; omega) (fun q e => by simp [Value.ownBlock] at e; have := HHb.out.size; omega)).setCell HGe.out _
          generalize w'.setCell ⟨B, 0, none⟩ (.slice (some ⟨g, 0, none⟩) inp.length cg) = W3 at HRun ⊢
          have HRunB := Lib.hid HRun.out.2
          have HGl := Lib.hid (show (gs.set 0 g).length = k.sizes.length by rw [List.length_set, HE3.out.rows.len]; simp)
          have HRunR := Lib.hid HRun.out.1
          have HGge := Lib.hid (show ∀ q ∈ gs.set 0 g, w2.heap.size ≤ q from fun q hq => (List.mem_or_eq_of_mem_set hq).elim (fun h => HLt.out q h) (fun h => by subst h; have := HHb.out.size; omega))
          generalize gs.set 0 g = gs1 at HRunR HGl HGge
          clear HLt
          clear HRun HE3 HBlk HG HN2 HBe HJ HHb z1 z2 hge hob
          go_loopw [8, 9, 10] (fun i _ _ wx => ∃ (t : Nat) (gs2 : List Nat), t ≤ k.ops.length ∧ i = .int .i64 (t : Int) ∧ Hid (RowsM wx B gs2 (runL k inp t) ∧ gs2.length = k.sizes.length ∧ ∀ q ∈ gs2, w2.heap.size ≤ q) ∧ Hid (Below w2.heap.size w2 wx)) (fun i _ _ _ => k.ops.length - (intOf i).toNat)
          case atStart => exact ⟨0, gs1, Nat.zero_le _, rfl, ⟨HRunR.out, HGl.out, HGge.out⟩, HRunB.out⟩
          case round =>
            obtain ⟨t, gs2, ht, rfl, HR2, HB3⟩ := hrel
            obtain ⟨y0, y1, y2, y3, y4, y5, y6, y7, ylt⟩ := HBx2.out.below HB3.out
            have r2 := J2.out.len
            by_cases hlt2 : t < k.ops.length
            · obtain ⟨bo, oo, x, b1, b2, b3, e1, e2, e3, rfl, hbo, hx, ⟨w0, w1, w2', w3, w4, w5, w6, w7, w8, w9, w10⟩, hrest⟩ := J2.out.pick hlt2
              obtain ⟨T, d, s, u, n, Sr, O, fx⟩ := opFacts HQ.out JI.out.wf (HL.out.trans HS0.out.symm) hx
              rw [fx.dst] at w1 hrest
              rw [fx.src] at w2' hrest
              rw [fx.oth] at w3 hrest
              have o0 := (HB3.out.cell (p := ⟨bo, oo + t * 11, none⟩) hbo).trans w0
              have o1 := (HB3.out.cell (p := ⟨bo, oo + t * 11 + 1, none⟩) hbo).trans w1
              have o2 := (HB3.out.cell (p := ⟨bo, oo + t * 11 + 2, none⟩) hbo).trans w2'
              have o3 := (HB3.out.cell (p := ⟨bo, oo + t * 11 + 3, none⟩) hbo).trans w3
              have o4 := (HB3.out.cell (p := ⟨bo, oo + t * 11 + 4, none⟩) hbo).trans w4
              have o5 := (HB3.out.cell (p := ⟨bo, oo + t * 11 + 5, none⟩) hbo).trans w5
              have o6 := (HB3.out.cell (p := ⟨bo, oo + t * 11 + 6, none⟩) hbo).trans w6
              have o7 := (HB3.out.cell (p := ⟨bo, oo + t * 11 + 7, none⟩) hbo).trans w7
              have o8 := (HB3.out.cell (p := ⟨bo, oo + t * 11 + 8, none⟩) hbo).trans w8
              have o9 := (HB3.out.cell (p := ⟨bo, oo + t * 11 + 9, none⟩) hbo).trans w9
              have o10 := (HB3.out.cell (p := ⟨bo, oo + t * 11 + 10, none⟩) hbo).trans w10
              have hbo2 : bo < wr.heap.size := Nat.lt_of_lt_of_le hbo HB3.out.size
              have FX := Lib.hid fx
              have HX := Lib.hid hx
              have HRest := Lib.hid hrest
              have hn2 := fx.n2
              have hn1 := fx.n1
              have hdl := fx.dl
              clear fx hx hrest w0 w1 w2' w3 w4 w5 w6 w7 w8 w9 w10
              go_wp2
              obtain ⟨wo, hwo⟩ : ∃ wo : World, wo = wr := ⟨_, rfl⟩
              subst hwo
              go_loopw [10] (fun i wy => ∃ m : Nat, m ≤ n ∧ i = .int .i64 (m : Int) ∧ Hid (L3 w2 wy B wo.heap.size gs2 (runL k inp t) d n ((List.range n).map (elemL x Sr O)) m (.int .i64 x.kind) (.int .i64 (d : Int)) (.int .i64 (s : Int)) (.int .i64 (u : Int)) (.int .i64 x.cols) (.int .i64 x.inner) (.slice b1 x.index.length e1) (.slice b2 x.weights.length e2) (.slice b3 x.bias.length e3) (.int .i64 x.mul) (.int .i64 x.shift))) (fun i _ => n - (intOf i).toNat)
              case atStart => exact ⟨0, Nat.zero_le _, rfl, L3.start HR2.out.1 FX.out.rd HB3.out _⟩
              case round =>
                clear o0 o1 o2 o3 o4 o5 o6 o7 o8 o9 o10 y0 y1 y2 y3 y4 y5 y6 y7 ylt
                obtain ⟨m, hm, rfl, H3⟩ := hrel
                obtain ⟨x0, x1, x2, x3, x4, x5, x6, x7, x8, x9, x10, xlt⟩ := H3.out.box
                obtain ⟨y0, y1, y2, y3, y4, y5, y6, y7, ylt⟩ := HBx2.out.below H3.out.bl
                obtain ⟨bs, os, es, _, hbs, hcs⟩ := (J1.out.below H3.out.bl).cells hdl
                cases es
                have cd := hcs d hdl
                rw [FX.out.size] at cd
                clear hcs
                by_cases hltm : m < n
                · obtain ⟨gd, cdd, old, q1, q2, q3, q4, q5⟩ := H3.out.here (by rw [FX.out.len]; exact hdl) (by simp) hltm
                  obtain ⟨gsr, csr, r1, r2⟩ := H3.out.pick FX.out.sd FX.out.rs FX.out.ws FX.out.bs
                  obtain ⟨gso, cso, r3, r4⟩ := H3.out.pick FX.out.td FX.out.rt FX.out.wt FX.out.bt
                  have hBlt := H3.out.rows.blt
                  have HC := Lib.hid (fun e => xElem (w := ext wr e) ((HRest.out.below H3.out.bl).below (ext_below wr e)) FX.out.ok (HWF.out.ops x (List.mem_of_getElem? HX.out)).2.2.2 csr cso (r2.below (ext_below wr e)) (r4.below (ext_below wr e)) m n (by rw [FX.out.dst, Int.toNat_natCast]; exact FX.out.size.symm) (by rw [FX.out.src, Int.toNat_natCast]; exact FX.out.ls) (fun _ => by rw [FX.out.oth, Int.toNat_natCast]; exact FX.out.lt) hltm FX.out.n2 FX.out.bs)
                  have HStep := Lib.hid (fun (w5 : World) (hb : Below wr.heap.size wr w5) (hp : gd ≠ wo.heap.size) => H3.out.step hb q1 (by rw [FX.out.len]; exact hdl) (by simp) hltm hp (HR2.out.2.2 gd (List.mem_of_getElem? q1)) (rangeMap_getD hltm))
                  have HGd := Lib.hid (show gd ≠ wo.heap.size from fun e => by
                    have hlt := (List.getElem?_eq_some_iff.1 q1).1
                    have hv : (runL k inp t)[d]? = some _ := FX.out.rd
                    have := (HR2.out.1.row d gd _ q1 hv).2.lt
                    omega)
                  have hsl := FX.out.sl
                  have htl := FX.out.tl
                  have f0 := ext_cell x0 xlt
                  have f1 := ext_cell x1 xlt
                  have f2 := ext_cell x2 xlt
                  have f3 := ext_cell x3 xlt
                  have f4 := ext_cell x4 xlt
                  have f5 := ext_cell x5 xlt
                  have f6 := ext_cell x6 xlt
                  have f7 := ext_cell x7 xlt
                  have f8 := ext_cell x8 xlt
                  have f9 := ext_cell x9 xlt
                  have f10 := ext_cell x10 xlt
                  have g1 := ext_cell q2 hBlt
                  have g2 := ext_cell r1 hBlt
                  have g3 := ext_cell r3 hBlt
                  have HQ3 := Lib.hid (fun (w5 : World) (hb : Below wr.heap.size wr w5) => And.intro ((hb.cell (p := ⟨gd, m, none⟩) q5).trans q3) ((hb.frozen (p := ⟨gd, m, none⟩) q5).trans q4))
                  generalize elemL x Sr O m = yv at *
                  clear q1 q3 q4 r2 r4
                  go_wp2
                  refine wp_region_ext_tail 20 (by kernel_rfl) (by kernel_rfl) ?_
                  simp only [List.take_succ_cons, List.take_zero, List.drop_succ_cons, List.drop_zero]
                  repeat (go_big_quiet_step (first | (go_at_call 14; with_reducible exact Calls.ext_of (HC.out _))))
                  refine wpQuiet_nil ?_
                  intro nq
                  have hbe := ext_below wr nq
                  obtain ⟨s1, s2⟩ := HQ3.out _ hbe
                  have HSt := Lib.hid (HStep.out _ hbe HGd.out)
                  generalize ext wr nq = w5 at *
                  clear f0 f1 f2 f3 f4 f5 f6 f7 f8 f9 f10 g1 g2 g3
                  go_wp2
                  go_roundw
                  case rel => exact ⟨m + 1, hltm, by go_num, HSt.out⟩
                  case measure => simp [intOf]; omega
                · obtain rfl : m = n := by omega
                  have hR3 := H3.out.end_ (by simp)
                  rw [← FX.out.next] at hR3
                  have HR3 := Lib.hid hR3
                  have HBl3 := Lib.hid H3.out.bl
                  clear hR3
                  go_wp2
                  go_roundw
                  case rel => exact ⟨t + 1, gs2, hlt2, by go_num, ⟨HR3.out, HR2.out.2⟩, HBl3.out⟩
                  case measure => simp [intOf]; omega
            · obtain rfl : t = k.ops.length := by omega
              go_wp2
              go_ret2
              exact .inl ⟨HQ.out, HL.out.trans HS0.out.symm, HB2.out.trans (HB3.out.mono HB2.out.size), B, cap, gs2, rfl, HR2.out.2.1, HR2.out.1⟩
    · have n1 : ((inp.length : Int) != s0) = true := by rw [bne_iff_ne]; exact hl
      have n2 : decide (¬ (inp.length : Int) = s0) = true := decide_eq_true hl
      have n3 : ((inp.length : Int) == s0) = false := by rw [beq_eq_false_iff_ne]; exact hl
      have HL : Hid (¬ (inp.length : Int) = k.sizes.getD 0 0) := by unfold Hid; rw [hs0]; exact hl
      clear hl hs0
      go_wp2
      go_ret2
      exact .inr (.inl ⟨HQ.out, HL.out, HB2.out, rfl⟩)

end Go.Proofs.YthlmgejikbmmaaaGreat

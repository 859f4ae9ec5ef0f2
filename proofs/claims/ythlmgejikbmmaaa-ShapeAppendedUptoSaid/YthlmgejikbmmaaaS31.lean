/-
  Contracts of the functions that the statements reach, in the order in which they are built: ModW, ModX.
-/
import Derived.Test.YthlmgejikbmmaaaS29
import Derived.Test.YthlmgejikbmmaaaS30
set_option linter.unusedVariables false
set_option linter.unusedSimpArgs false
set_option linter.constructorNameAsVariable false
set_option linter.deprecated false

/-
  The statements of layer 13: the example of the document; which models are small enough. By contract.
-/
namespace Go.Proofs.Ythlmgejikbmmaaa
open Go.RowKit

def convL : LayL := ⟨2, 0, 2, 3, 3, 1, 1, List.replicate 18 zeroR, List.replicate 2 zeroR⟩
def poolL : LayL := ⟨3, 0, 0, 2, 2, 2, 0, [], []⟩
theorem conv_out : outSL [1, 4, 4] [] convL = ([2, 4, 4], 0) := by decide +kernel
theorem pool_out : outSL [1, 4, 4] [[2, 4, 4]] poolL = ([2, 2, 2], 0) := by decide +kernel
theorem zeros_le (n : Nat) : ∀ x ∈ List.replicate n zeroR, RatLe x 1048576 := by
  intro x hx
  rw [List.eq_of_mem_replicate hx]
  exact ⟨by simp [zeroR], by simp [zeroR]⟩
theorem conv_le : LayLe convL := ⟨zeros_le 18, zeros_le 2⟩
theorem conv_range : LayRange convL := by unfold LayRange convL I64; simp
theorem pool_le : LayLe poolL := ⟨by simp [poolL], by simp [poolL]⟩
theorem pool_range : LayRange poolL := by unfold LayRange poolL I64; simp

def zLay : Array Value := #[.int .i64 0, .int .i64 0, .int .i64 0, .int .i64 0, .int .i64 0, .int .i64 0, .int .i64 0, .slice none 0 0, .slice none 0 0]
def awG (B i : Nat) (v : Value) (w : World) : Prop :=
  match i with
  | 0 => RowT B 78 (zero3 18) 18 v w
  | 1 => RowT B 78 (zero3 2) 2 v w
  | 2 => ∃ v0 v1, RowT B 78 (zero3 18) 18 v0 w ∧ RowT B 78 (zero3 2) 2 v1 w ∧ v = .agg #[.int .i64 2, .int .i64 0, .int .i64 2, .int .i64 3, .int .i64 3, .int .i64 1, .int .i64 1, v0, v1]
  | 3 => CellT B 26 zLay v w
  | _ => True
theorem awG_below {B i : Nat} {v : Value} {w w' : World} (h : awG B i v w) (hb : Below w.heap.size w w') : awG B i v w' := by
  match i, h with
  | 0, h => exact RowT.below h hb
  | 1, h => exact RowT.below h hb
  | 2, ⟨v0, v1, h0, h1, h2⟩ => exact ⟨v0, v1, h0.below hb, h1.below hb, h2⟩
  | 3, h => exact CellT.below h hb
  | _ + 4, _ => trivial
/-- The variable that holds the convolution. -/
def AwCut (w : World) (s : Value) (wx : World) : Prop := ∃ g a1 a2, s = .pointer (some ⟨g, 0, none⟩) ∧ Below w.heap.size w wx ∧
  Box9 wx g (.int .i64 2) (.int .i64 0) (.int .i64 2) (.int .i64 3) (.int .i64 3) (.int .i64 1) (.int .i64 1) (.slice (some ⟨a1, 0, none⟩) 18 18) (.slice (some ⟨a2, 0, none⟩) 2 2) ∧
  RatsAt wx (some ⟨a1, 0, none⟩) (List.replicate 18 zeroR) ∧ RatsAt wx (some ⟨a2, 0, none⟩) (List.replicate 2 zeroR)
theorem Box9.of_block {w : World} {g T : Nat} {p0 p1 p2 p3 p4 p5 p6 p7 p8 : Value} (h : w.heap[g]? = some (.cells #[p0, p1, p2, p3, p4, p5, p6, p7, p8] T (0, 0))) : Box9 w g p0 p1 p2 p3 p4 p5 p6 p7 p8 := by
  refine ⟨?_, ?_, ?_, ?_, ?_, ?_, ?_, ?_, ?_, (Array.getElem?_eq_some_iff.1 h).1⟩ <;> simp [World.cell?, h]
theorem awCut_mk {w W : World} {gp a1 a2 : Nat} (hR : From w.heap.size w W) (hgp : w.heap.size ≤ gp) (hblk : W.heap[gp]? = some (.cells zLay 26 (0, 0)))
    (k0 : RowT w.heap.size 78 (zero3 18) 18 (.slice (some ⟨a1, 0, none⟩) 18 18) W) (k1 : RowT w.heap.size 78 (zero3 2) 2 (.slice (some ⟨a2, 0, none⟩) 2 2) W) :
    Hid (AwCut w (.pointer (some ⟨gp, 0, none⟩)) (setRow gp W 0 [.int .i64 2, .int .i64 0, .int .i64 2, .int .i64 3, .int .i64 3, .int .i64 1, .int .i64 1, .slice (some ⟨a1, 0, none⟩) 18 18, .slice (some ⟨a2, 0, none⟩) 2 2])) := by
  have hbe : Below w.heap.size w (setRow gp W 0 [.int .i64 2, .int .i64 0, .int .i64 2, .int .i64 3, .int .i64 3, .int .i64 1, .int .i64 1, .slice (some ⟨a1, 0, none⟩) 18 18, .slice (some ⟨a2, 0, none⟩) 2 2]) := setRow_below hgp _ _ _ hR.be
  have h0 := k0.setRow hblk (by decide) [.int .i64 2, .int .i64 0, .int .i64 2, .int .i64 3, .int .i64 3, .int .i64 1, .int .i64 1, .slice (some ⟨a1, 0, none⟩) 18 18, .slice (some ⟨a2, 0, none⟩) 2 2]
  have h1 := k1.setRow hblk (by decide) [.int .i64 2, .int .i64 0, .int .i64 2, .int .i64 3, .int .i64 3, .int .i64 1, .int .i64 1, .slice (some ⟨a1, 0, none⟩) 18 18, .slice (some ⟨a2, 0, none⟩) 2 2]
  have hbk := setRow_all (l := [.int .i64 2, .int .i64 0, .int .i64 2, .int .i64 3, .int .i64 3, .int .i64 1, .int .i64 1, .slice (some ⟨a1, 0, none⟩) 18 18, .slice (some ⟨a2, 0, none⟩) 2 2]) hblk rfl
  generalize setRow gp W 0 _ = W' at *
  obtain ⟨g0, _, e0, q0⟩ := h0
  obtain ⟨g1, _, e1, q1⟩ := h1
  cases e0
  cases e1
  exact ⟨gp, _, _, rfl, hbe, Box9.of_block hbk, RatsAt.zeros q0 (by omega), RatsAt.zeros q1 (by omega)⟩

theorem lit3 (w : World) (x y z : Int) (hx : I64 x) (hy : I64 y) (hz : I64 z) : Ints (w.alloc (.cells #[.int .i64 x, .int .i64 y, .int .i64 z] 3)) Any (some ⟨w.heap.size, 0, none⟩) [x, y, z] := ints3_alloc w x y z _ hx hy hz

set_option maxRecDepth 100000 in
set_option maxHeartbeats 3200000 in
theorem awake13 (w : World) : Calls Try.prog 13 #[] w fun e w' => e = .returned (.bool true) ∧ Below w.heap.size w w' := by
  go_enter Try.func13, Try.ntmps13
  go_upto_region 1 with fail
  go_cut [1] (fun s1 wx => Hid (AwCut w s1 wx))
  case first =>
    refine wp_region_slots_lit (by kernel_rfl) (by kernel_rfl) (by kernel_rfl) (by kernel_rfl) (by kernel_rfl) (From w.heap.size w) (fun w w' => Below w.heap.size w w') (awG w.heap.size) (fun i v w w' h hb => awG_below h hb) (From.start (Nat.le_refl _)) ?_ ?_
    · intro ops
      simp only [List.dropLast, Shows]
      refine ⟨?_, ?_, ?_, ?_, trivial⟩
      · intro g W hR hL
        have hB := hR.base
        have HR := Lib.hid hR
        clear hR hL
        simp [fillFrom, Act.put]
        have hmk := mkRats 18 (by omega)
        simp only [show ((18 : Nat) : Int) = 18 from rfl] at hmk
        go_wp2
        exact ⟨_, rfl, HR.out.alloc _, (Below.refl W.heap.size W).alloc (Nat.le_refl _) _, RowT.alloc hB _ _ _⟩
      · intro g W hR hL
        have hB := hR.base
        have HR := Lib.hid hR
        clear hR hL
        simp [fillFrom, Act.put]
        have hmk := mkRats 2 (by omega)
        simp only [show ((2 : Nat) : Int) = 2 from rfl] at hmk
        go_wp2
        exact ⟨_, rfl, HR.out.alloc _, (Below.refl W.heap.size W).alloc (Nat.le_refl _) _, RowT.alloc hB _ _ _⟩
      · intro g W hR hL
        simp only [Laid, Region.binds, forall_const, awG] at hL
        obtain ⟨H0, H1, _⟩ := hL
        simp [fillFrom, Act.put]
        generalize g 0 = y0 at H0 ⊢
        generalize g 1 = y1 at H1 ⊢
        have K0 := Lib.hid H0
        have K1 := Lib.hid H1
        obtain ⟨b0, p0, rfl, q0⟩ := H0
        obtain ⟨b1, p1, rfl, q1⟩ := H1
        have HR := Lib.hid hR
        clear hR p0 q0 p1 q1
        go_wp2
        exact ⟨_, rfl, HR.out, Below.refl _ _, _, _, K0.out, K1.out, rfl⟩
      · intro g W hR hL
        have hB := hR.base
        have HR := Lib.hid hR
        clear hR hL
        simp [fillFrom, Act.put]
        go_wp2
        exact ⟨_, rfl, HR.out.alloc _, (Below.refl W.heap.size W).alloc (Nat.le_refl _) _, CellT.alloc hB _ _⟩
    · intro ops g W hR hL
      simp only [List.dropLast, List.getLastD_cons, List.getLastD_nil, fillFrom, Act.put, List.length_cons, List.length_nil, Nat.reduceAdd, LaidAll] at hL ⊢
      have HV := hL.1.2
      have HP := hL.2
      simp only [awG] at HV HP
      clear hL
      generalize g 2 = yv at HV ⊢
      generalize g 3 = yp at HP ⊢
      obtain ⟨v0, v1, H0, H1, rfl⟩ := HV
      obtain ⟨gp, hgp, rfl, hblk⟩ := HP
      have K0 := Lib.hid H0
      have K1 := Lib.hid H1
      obtain ⟨b0, p0, rfl, q0⟩ := H0
      obtain ⟨b1, p1, rfl, q1⟩ := H1
      have HR := Lib.hid hR
      have HBk := Lib.hid hblk
      unfold zLay at hblk
      clear hR p0 q0 p1 q1
      have c0 : W.cell? ⟨gp, 0, none⟩ = some (.int .i64 0) := by simp [World.cell?, hblk]
      have c1 : W.cell? ⟨gp, 1, none⟩ = some (.int .i64 0) := by simp [World.cell?, hblk]
      have c2 : W.cell? ⟨gp, 2, none⟩ = some (.int .i64 0) := by simp [World.cell?, hblk]
      have c3 : W.cell? ⟨gp, 3, none⟩ = some (.int .i64 0) := by simp [World.cell?, hblk]
      have c4 : W.cell? ⟨gp, 4, none⟩ = some (.int .i64 0) := by simp [World.cell?, hblk]
      have c5 : W.cell? ⟨gp, 5, none⟩ = some (.int .i64 0) := by simp [World.cell?, hblk]
      have c6 : W.cell? ⟨gp, 6, none⟩ = some (.int .i64 0) := by simp [World.cell?, hblk]
      have c7 : W.cell? ⟨gp, 7, none⟩ = some (.slice none 0 0) := by simp [World.cell?, hblk]
      have c8 : W.cell? ⟨gp, 8, none⟩ = some (.slice none 0 0) := by simp [World.cell?, hblk]
      have fz : ∀ o, W.frozen? ⟨gp, o, none⟩ = false := fun o => by simp [World.frozen?, hblk]
      clear hblk
      go_wp2
      go_meet
      exact awCut_mk HR.out hgp HBk.out K0.out K1.out
  case rest =>
    obtain ⟨g, a1, a2, rfl, hb1, hx, hr1, hr2⟩ := hcut.out
    clear hcut
    have HB1 := Lib.hid hb1
    have HX := Lib.hid hx
    have hl3 := lit3 wc 1 4 4 (by unfold I64; omega) (by unfold I64; omega) (by unfold I64; omega)
    have hal := (Below.refl wc.heap.size wc).alloc (Nat.le_refl _) (.cells #[.int .i64 1, .int .i64 4, .int .i64 4] 3)
    have HO1 := Lib.hid (sOut (S := []) (ash := none) 3 0 hl3 (Intss.nil _ _ _) (u := .agg #[.int .i64 2, .int .i64 0, .int .i64 2, .int .i64 3, .int .i64 3, .int .i64 1, .int .i64 1, .slice (some ⟨a1, 0, none⟩) 18 18, .slice (some ⟨a2, 0, none⟩) 2 2]) (l := convL) ⟨some ⟨a1, 0, none⟩, some ⟨a2, 0, none⟩, 18, 2, rfl, hr1.below hal, hr2.below hal⟩ conv_range conv_le (by simp))
    rw [conv_out] at HO1
    obtain ⟨x0, x1, x2, x3, x4, x5, x6, x7, x8, xlt⟩ := HX.out
    have HAl := Lib.hid hal
    clear hb1 hx hr1 hr2 hl3 hal
    go_wp2_with fail
    refine HO1.out.mono ?_
    rintro e w2 ⟨⟨s1, k1, rfl, hI1, _⟩, hb2⟩
    have HB2 := Lib.hid (HB1.out.trans ((HAl.out.trans (hb2.mono HAl.out.size)).mono HB1.out.size))
    have HI1 := Lib.hid (hI1.mono (F' := Any) (fun _ _ _ => trivial))
    clear x0 x1 x2 x3 x4 x5 x6 x7 x8 xlt hI1 hb2 HO1 HX HAl
    simp only [List.length_cons, List.length_nil, Nat.reduceAdd]
    have hA := lit3 w2 1 4 4 (by unfold I64; omega) (by unfold I64; omega) (by unfold I64; omega)
    have bA : Below w2.heap.size w2 (w2.alloc (.cells #[.int .i64 1, .int .i64 4, .int .i64 4] 3)) := (Below.refl _ _).alloc (Nat.le_refl _) _
    have hB := lit3 (w2.alloc (.cells #[.int .i64 1, .int .i64 4, .int .i64 4] 3)) 2 4 4 (by unfold I64; omega) (by unfold I64; omega) (by unfold I64; omega)
    have bB : Below w2.heap.size w2 ((w2.alloc (.cells #[.int .i64 1, .int .i64 4, .int .i64 4] 3)).alloc (.cells #[.int .i64 2, .int .i64 4, .int .i64 4] 3)) := bA.alloc (by simp) _
    have e2 : (w2.alloc (.cells #[.int .i64 1, .int .i64 4, .int .i64 4] 3)).heap.size = w2.heap.size + 1 := by simp
    have e3 : ((w2.alloc (.cells #[.int .i64 1, .int .i64 4, .int .i64 4] 3)).alloc (.cells #[.int .i64 2, .int .i64 4, .int .i64 4] 3)).heap.size = w2.heap.size + 1 + 1 := by simp
    have hAB := hA.below ((Below.refl _ (w2.alloc (.cells #[.int .i64 1, .int .i64 4, .int .i64 4] 3))).alloc (Nat.le_refl _) (.cells #[.int .i64 2, .int .i64 4, .int .i64 4] 3))
    have hC : Intss (((w2.alloc (.cells #[.int .i64 1, .int .i64 4, .int .i64 4] 3)).alloc (.cells #[.int .i64 2, .int .i64 4, .int .i64 4] 3)).alloc (.cells #[.slice (some ⟨w2.heap.size + 1, 0, none⟩) 3 3] 22)) Any (some ⟨w2.heap.size + 1 + 1, 0, none⟩) [[2, 4, 4]] := by
      refine ⟨by simp, .inr ⟨_, 0, rfl, trivial, by simp, fun j l hj => ?_⟩⟩
      match j, hj with
      | 0, hj =>
        simp at hj
        subst hj
        refine ⟨some ⟨w2.heap.size + 1, 0, none⟩, 3, ?_, ?_, by simp⟩
        · rw [World.cell?_alloc_at _ _ _ _ e3.symm]; rfl
        · rw [e2] at hB
          exact hB.below ((Below.refl _ _).alloc (Nat.le_refl _) _)
    have hbC : Below ((w2.alloc (.cells #[.int .i64 1, .int .i64 4, .int .i64 4] 3)).alloc (.cells #[.int .i64 2, .int .i64 4, .int .i64 4] 3)).heap.size ((w2.alloc (.cells #[.int .i64 1, .int .i64 4, .int .i64 4] 3)).alloc (.cells #[.int .i64 2, .int .i64 4, .int .i64 4] 3)) (((w2.alloc (.cells #[.int .i64 1, .int .i64 4, .int .i64 4] 3)).alloc (.cells #[.int .i64 2, .int .i64 4, .int .i64 4] 3)).alloc (.cells #[.slice (some ⟨w2.heap.size + 1, 0, none⟩) 3 3] 22)) := (Below.refl _ _).alloc (Nat.le_refl _) _
    have HO2 := Lib.hid (sOut 3 1 (hAB.below hbC) hC (u := .agg #[.int .i64 3, .int .i64 0, .int .i64 0, .int .i64 2, .int .i64 2, .int .i64 2, .int .i64 0, .slice none 0 0, .slice none 0 0]) (l := poolL) ⟨none, none, 0, 0, rfl, RatsAt.nil _ _, RatsAt.nil _ _⟩ pool_range pool_le (by simp))
    rw [pool_out] at HO2
    have HB3 := Lib.hid (HB2.out.trans ((bB.trans (hbC.mono bB.size)).mono HB2.out.size))
    have HI3 := Lib.hid (HI1.out.below (bB.trans (hbC.mono bB.size)))
    clear hA bA hB bB e2 e3 hAB hC hbC HI1
    go_wp2_with fail
    refine HO2.out.mono ?_
    rintro e w4 ⟨⟨s2, k2, rfl, hI2, _⟩, hb4⟩
    have HB4 := Lib.hid (HB3.out.trans (hb4.mono HB3.out.size))
    have HI4 := Lib.hid (HI3.out.below hb4)
    have HJ4 := Lib.hid (hI2.mono (F' := Any) (fun _ _ _ => trivial))
    clear hI2 hb4 HO2 HI3
    simp only [List.length_cons, List.length_nil, Nat.reduceAdd]
    have hA := lit3 w4 2 4 4 (by unfold I64; omega) (by unfold I64; omega) (by unfold I64; omega)
    have bA : Below w4.heap.size w4 (w4.alloc (.cells #[.int .i64 2, .int .i64 4, .int .i64 4] 3)) := (Below.refl _ _).alloc (Nat.le_refl _) _
    have HC1 := Lib.hid (rInts (l := [2, 4, 4]) (m := [2, 4, 4]) k1 3 (HI4.out.below bA) hA)
    rw [show sameL [2, 4, 4] [2, 4, 4] = true by decide] at HC1
    have HBA := Lib.hid bA
    clear hA bA
    go_wp2_with fail
    refine HC1.out.mono ?_
    rintro e w5 ⟨rfl, n5, hw5⟩
    have hb5 : Below w4.heap.size w4 w5 := HBA.out.trans (by rw [hw5]; exact (Below.drewN_refl _ _).mono HBA.out.size)
    have HB5 := Lib.hid (HB4.out.trans (hb5.mono HB4.out.size))
    have HJ5 := Lib.hid (HJ4.out.below hb5)
    clear hw5 hb5 HC1
    have hA := lit3 w5 2 2 2 (by unfold I64; omega) (by unfold I64; omega) (by unfold I64; omega)
    have bA : Below w5.heap.size w5 (w5.alloc (.cells #[.int .i64 2, .int .i64 2, .int .i64 2] 3)) := (Below.refl _ _).alloc (Nat.le_refl _) _
    have HC1 := Lib.hid (rInts (l := [2, 2, 2]) (m := [2, 2, 2]) k2 3 (HJ5.out.below bA) hA)
    rw [show sameL [2, 2, 2] [2, 2, 2] = true by decide] at HC1
    have HBB := Lib.hid bA
    clear hA bA
    go_wp2_with fail
    refine HC1.out.mono ?_
    rintro e w6 ⟨rfl, n6, hw6⟩
    have hb6 : Below w5.heap.size w5 w6 := HBB.out.trans (by rw [hw6]; exact (Below.drewN_refl _ _).mono HBB.out.size)
    have HB6 := Lib.hid (HB5.out.trans (hb6.mono HB5.out.size))
    clear hw6 hb6 HC1
    go_wp2
    go_ret
    exact ⟨rfl, HB6.out⟩

/-- A model is small enough. -/
def fairL (m : ModL) : Bool := decide (m.input.length ≤ 8) && (decide (m.layers.length ≤ 12) && (m.layers.all (fun l => decide (l.weights.length ≤ 200) && decide (l.bias.length ≤ 200)) && decide (sizeL m.input ≤ 200)))

end Go.Proofs.Ythlmgejikbmmaaa

/-
  The walks of fair and of ShapeOf: by contract.
-/
namespace Go.Proofs.Ythlmgejikbmmaaa
open Go.RowKit

def smallLay (l : LayL) : Bool := decide (l.weights.length ≤ 200) && decide (l.bias.length ≤ 200)
theorem fairL_eq (m : ModL) : fairL m = (decide (m.input.length ≤ 8) && (decide (m.layers.length ≤ 12) && (m.layers.all smallLay && decide (sizeL m.input ≤ 200)))) := rfl
theorem all_take {L : List LayL} {j : Nat} {x : LayL} (hx : L[j]? = some x) : (L.take (j + 1)).all smallLay = ((L.take j).all smallLay && smallLay x) := by
  rw [take_succ_at hx, List.all_append]; simp

set_option maxRecDepth 100000 in
set_option maxHeartbeats 3200000 in
theorem kFair {w : World} {m : ModL} {a1 a2 : Option Addr} (c1 c2 : Nat) (h1 : Ints w Any a1 m.input) (h2 : LaysAt w a2 m.layers) :
    Calls Try.prog 18 #[.agg #[.slice a1 m.input.length c1, .slice a2 m.layers.length c2]] w fun e w' => e = .returned (.bool (fairL m)) ∧ Below w.heap.size w w' := by
  have q1 := h1.len
  have q2 := h2.len
  have H1 := Lib.hid h1
  have H2 := Lib.hid h2
  generalize hR : fairL m = R
  have HR := Lib.hid hR
  rw [fairL_eq] at hR
  have HRd := Lib.hid hR
  have hbA : Below w.heap.size w (w.alloc (.cells #[.slice a1 m.input.length c1, .slice a2 m.layers.length c2] 36)) := (Below.refl _ _).alloc (Nat.le_refl _) _
  have hx := Box2.alloc w (.slice a1 m.input.length c1) (.slice a2 m.layers.length c2) 36
  clear h1 h2 hR
  go_enter Try.func18, Try.ntmps18
  go_upto_region 1 with fail
  generalize w.alloc (.cells #[.slice a1 m.input.length c1, .slice a2 m.layers.length c2] 36) = W at *
  have HB := Lib.hid hbA
  have HX := Lib.hid hx
  clear hbA hx
  obtain ⟨x0, x1, xf, xlt⟩ := HX.out
  by_cases e1 : m.input.length ≤ 8
  · by_cases e2 : m.layers.length ≤ 12
    · have HRe : Hid ((m.layers.all smallLay && decide (sizeL m.input ≤ 200)) = R) := by have := HRd.out; rw [decide_eq_true e1, decide_eq_true e2] at this; exact this
      go_wp2
      clear x0 x1 xf xlt
      go_loopw [3] (fun i wr => ∃ j : Nat, j ≤ m.layers.length ∧ i = .int .i64 (j : Int) ∧ Hid ((m.layers.take j).all smallLay = true) ∧ Hid (W = wr)) (fun i _ => m.layers.length - (intOf i).toNat)
      case atStart => exact ⟨0, Nat.zero_le _, rfl, rfl, rfl⟩
      case round =>
        obtain ⟨j, hj, rfl, HA, HW⟩ := hrel
        have ew := HW.out
        clear HW
        subst ew
        obtain ⟨x0, x1, xf, xlt⟩ := HX.out
        by_cases hlt : j < m.layers.length
        · obtain ⟨bl, ol, l, rfl, hbl, hl, b1, b2, d1, d2, ⟨l0, l1, l2, l3, l4, l5, l6, l7, l8⟩, r1, r2⟩ := (H2.out.below HB.out).pick hlt
          have HT := Lib.hid (all_take hl)
          have HM := Lib.hid (List.mem_of_getElem? hl)
          have p1 := r1.len
          have p2 := r2.len
          clear hl r1 r2
          by_cases g1 : l.weights.length ≤ 200
          · by_cases g2 : l.bias.length ≤ 200
            · have HA2 : Hid ((m.layers.take (j + 1)).all smallLay = true) := by unfold Hid; rw [HT.out, HA.out]; unfold smallLay; rw [decide_eq_true g1, decide_eq_true g2]; rfl
              go_wp2
              go_roundw
              case rel => exact ⟨j + 1, hlt, by go_num, HA2.out, by first | rfl | exact True.intro⟩
              case measure => simp [intOf]; omega
            · have HF : Hid (R = false) := by
                unfold Hid
                have : m.layers.all smallLay = false := by rw [List.all_eq_false]; exact ⟨l, HM.out, by simp [smallLay, g2]⟩
                rw [← HRe.out, this]; rfl
              go_wp2
              go_ret
              exact ⟨ret_bool HF.out.symm, HB.out⟩
          · have HF : Hid (R = false) := by
              unfold Hid
              have : m.layers.all smallLay = false := by rw [List.all_eq_false]; exact ⟨l, HM.out, by simp [smallLay, g1]⟩
              rw [← HRe.out, this]; rfl
            go_wp2
            go_ret
            exact ⟨ret_bool HF.out.symm, HB.out⟩
        · obtain rfl : j = m.layers.length := by omega
          have HS := Lib.hid (rSize c1 (H1.out.below HB.out))
          have HE : Hid (R = decide (sizeL m.input ≤ 200)) := by
            have := HA.out
            rw [List.take_length] at this
            unfold Hid
            rw [← HRe.out, this]; rfl
          generalize sizeL m.input = sz at *
          by_cases g3 : sz ≤ 200
          · rw [decide_eq_true g3] at HE
            go_wp2_with fail
            refine HS.out.mono ?_
            rintro e w' ⟨rfl, rfl⟩
            go_wp2
            go_ret
            exact ⟨ret_bool HE.out.symm, HB.out⟩
          · rw [decide_eq_false g3] at HE
            go_wp2_with fail
            refine HS.out.mono ?_
            rintro e w' ⟨rfl, rfl⟩
            go_wp2
            go_ret
            exact ⟨ret_bool (by rw [HE.out]; exact decide_eq_false (by omega)), HB.out⟩
    · have HF : Hid (R = false) := by unfold Hid; rw [← HRd.out, decide_eq_true e1, decide_eq_false e2]; rfl
      go_wp2
      go_ret
      exact ⟨ret_bool HF.out.symm, HB.out⟩
  · have HF : Hid (R = false) := by unfold Hid; rw [← HRd.out, decide_eq_false e1]; rfl
    go_wp2
    go_ret
    exact ⟨ret_bool HF.out.symm, HB.out⟩

set_option maxRecDepth 100000 in
set_option maxHeartbeats 3200000 in
theorem lawOf {w : World} {m : ModL} {a1 a2 : Option Addr} (c1 c2 : Nat) (h1 : Ints w Any a1 m.input) (h2 : LaysAt w a2 m.layers) (hr : ∀ l ∈ m.layers, LayRange l) (hs : ∀ l ∈ m.layers, LayLe l) :
    Calls Try.prog 4 #[.agg #[.slice a1 m.input.length c1, .slice a2 m.layers.length c2]] w fun e w' => e = .returned (.bool true) ∧ Below w.heap.size w w' := by
  have q1 := h1.len
  have q2 := h2.len
  have H1 := Lib.hid h1
  have H2 := Lib.hid h2
  have HRg := Lib.hid hr
  have HSh := Lib.hid hs
  have hbA : Below w.heap.size w (w.alloc (.cells #[.slice a1 m.input.length c1, .slice a2 m.layers.length c2] 36)) := (Below.refl _ _).alloc (Nat.le_refl _) _
  have hx := Box2.alloc w (.slice a1 m.input.length c1) (.slice a2 m.layers.length c2) 36
  clear h1 h2 hr hs
  go_enter Try.func4, Try.ntmps4
  go_upto_region 1 with fail
  generalize w.alloc (.cells #[.slice a1 m.input.length c1, .slice a2 m.layers.length c2] 36) = W at *
  have HB := Lib.hid hbA
  have HX := Lib.hid hx
  clear hbA hx
  go_wp2_with fail
  refine (awake13 W).mono ?_
  rintro e w1 ⟨rfl, hb1⟩
  have HB1 := Lib.hid (HB.out.trans (hb1.mono HB.out.size))
  have HX1 := Lib.hid (HX.out.below hb1)
  obtain ⟨x0, x1, xf, xlt⟩ := HX1.out
  have HF := Lib.hid (kFair c1 c2 (H1.out.below HB1.out) (H2.out.below HB1.out))
  clear hb1 HX
  cases hf : fairL m with
  | false =>
    rw [hf] at HF
    clear hf
    go_wp2_with fail
    refine HF.out.mono ?_
    rintro e w2 ⟨rfl, hb2⟩
    have HB2 := Lib.hid (HB1.out.trans (hb2.mono HB1.out.size))
    clear hb2 x0 x1 xf xlt
    go_wp2_with fail
    refine (awake13 w2).mono ?_
    rintro e w3 ⟨rfl, hb3⟩
    have HB3 := Lib.hid (HB2.out.trans (hb3.mono HB2.out.size))
    clear hb3
    go_wp2
    go_ret
    exact ⟨rfl, HB3.out⟩
  | true =>
    rw [hf] at HF
    clear hf
    go_wp2_with fail
    refine HF.out.mono ?_
    rintro e w2 ⟨rfl, hb2⟩
    have HB2 := Lib.hid (HB1.out.trans (hb2.mono HB1.out.size))
    have HX2 := Lib.hid (HX1.out.below hb2)
    clear hb2 x0 x1 xf xlt
    obtain ⟨x0, x1, xf, xlt⟩ := HX2.out
    have HO := Lib.hid (sOf c1 c2 (H1.out.below HB2.out) (H2.out.below HB2.out) HRg.out HSh.out)
    obtain ⟨P, hP⟩ : ∃ P, shapesL m = P := ⟨_, rfl⟩
    rw [hP] at HO
    have HP := Lib.hid hP
    clear hP
    obtain ⟨T, i, er⟩ := P
    go_wp2_with fail
    refine HO.out.mono ?_
    rintro e w3 ⟨⟨a, c, rfl, hT⟩, hb3⟩
    have HB3 := Lib.hid (HB2.out.trans (hb3.mono HB2.out.size))
    have HX3 := Lib.hid (HX2.out.below hb3)
    have HT := Lib.hid (hT.mono (F' := Any) (fun _ _ _ => trivial))
    clear hb3 hT HO x0 x1 xf xlt
    simp only
    obtain ⟨x0, x1, xf, xlt⟩ := HX3.out
    have HO := Lib.hid (r13Of c1 c2 (H1.out.below HB3.out) (H2.out.below HB3.out) HRg.out HSh.out)
    rw [HP.out] at HO
    have ql := HT.out.len
    simp only at ql
    go_wp2_with fail
    refine HO.out.mono ?_
    rintro e w4 ⟨⟨b, d, rfl, hU⟩, hb4⟩
    have HB4 := Lib.hid (HB3.out.trans (hb4.mono HB3.out.size))
    have HT4 := Lib.hid (HT.out.below hb4)
    have HU := Lib.hid (hU.mono (F' := Any) (fun _ _ _ => trivial))
    have HC := Lib.hid (rSame c d HT4.out HU.out)
    simp only at HC
    rw [show sameS T T = true by unfold sameS; simp] at HC
    have t1 : (i == i) = true := by simp
    have t2 : (er == er) = true := by simp
    clear hb4 hU HO x0 x1 xf xlt
    go_wp2_with fail
    refine HC.out.mono ?_
    rintro e w5 ⟨rfl, hb5⟩
    have HB5 := Lib.hid (HB4.out.trans (hb5.mono HB4.out.size))
    clear hb5
    go_wp2
    go_ret
    exact ⟨rfl, HB5.out⟩

end Go.Proofs.Ythlmgejikbmmaaa

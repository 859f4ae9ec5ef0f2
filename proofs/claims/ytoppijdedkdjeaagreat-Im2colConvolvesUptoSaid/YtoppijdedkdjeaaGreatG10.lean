/-
  Contracts of the functions that the statement reaches: ModA, ModC, ModD, ModE.
-/
import Derived.Test.YtoppijdedkdjeaaGreatG7
set_option linter.unusedVariables false
set_option linter.unusedSimpArgs false
set_option linter.constructorNameAsVariable false
set_option linter.deprecated false
set_option maxRecDepth 100000
set_option maxHeartbeats 3200000
namespace Go.Proofs.YtoppijdedkdjeaaGreat
open Go.RowKit
open Go.Lib (hid)
structure LayL where
 kind : Int
 frm : Int
 out : Int
 kh : Int
 kw : Int
 stride : Int
 pad : Int
 weights : List RatL
 bias : List RatL
abbrev layO (l : LayL) (b1 : Option Addr) (d1 : Nat) (b2 : Option Addr) (d2 : Nat) (T : Nat) : Obj := .cells #[.int .i64 l.kind, .int .i64 l.frm, .int .i64 l.out, .int .i64 l.kh, .int .i64 l.kw, .int .i64 l.stride, .int .i64 l.pad, .slice b1 l.weights.length d1, .slice b2 l.bias.length d2] T
structure ModL where
 input : List Int
 layers : List LayL
structure LayV (w : World) (v : Value) (l : LayL) : Prop where
 ex : ∃ (a1 a2 : Option Addr) (c1 c2 : Nat), v = .agg #[.int .i64 l.kind, .int .i64 l.frm, .int .i64 l.out, .int .i64 l.kh, .int .i64 l.kw, .int .i64 l.stride, .int .i64 l.pad, .slice a1 l.weights.length c1, .slice a2 l.bias.length c2] /\ RatsAt w a1 l.weights /\ RatsAt w a2 l.bias
theorem LayV.below {w w' : World} {v : Value} {l : LayL} (h : LayV w v l) (hb : Below w.heap.size w w') : LayV w' v l := by
 obtain ⟨a1, a2, c1, c2, e, h1, h2⟩ := h.ex
 exact ⟨a1, a2, c1, c2, e, h1.below hb, h2.below hb⟩
def LayAt (w : World) (b o : Nat) (l : LayL) : Prop := ∃ (a1 a2 : Option Addr) (c1 c2 : Nat),
 (w.cell? ⟨b, o, none⟩ = some (.int .i64 l.kind) /\ w.cell? ⟨b, o + 1, none⟩ = some (.int .i64 l.frm) /\ w.cell? ⟨b, o + 2, none⟩ = some (.int .i64 l.out) /\ w.cell? ⟨b, o + 3, none⟩ = some (.int .i64 l.kh) /\
  w.cell? ⟨b, o + 4, none⟩ = some (.int .i64 l.kw) /\ w.cell? ⟨b, o + 5, none⟩ = some (.int .i64 l.stride) /\ w.cell? ⟨b, o + 6, none⟩ = some (.int .i64 l.pad) /\ w.cell? ⟨b, o + 7, none⟩ = some (.slice a1 l.weights.length c1) /\ w.cell? ⟨b, o + 8, none⟩ = some (.slice a2 l.bias.length c2)) /\
 RatsAt w a1 l.weights /\ RatsAt w a2 l.bias
theorem LayAt.below {w w' : World} {b o : Nat} {l : LayL} (h : LayAt w b o l) (hl : b < w.heap.size) (hb : Below w.heap.size w w') : LayAt w' b o l := by
 obtain ⟨a1, a2, c1, c2, ⟨h0, h1, h2, h3, h4, h5, h6, h7, h8⟩, k1, k2⟩ := h
 exact ⟨a1, a2, c1, c2, ⟨(hb.cell hl).trans h0, (hb.cell hl).trans h1, (hb.cell hl).trans h2, (hb.cell hl).trans h3, (hb.cell hl).trans h4, (hb.cell hl).trans h5, (hb.cell hl).trans h6, (hb.cell hl).trans h7, (hb.cell hl).trans h8⟩, k1.below hb, k2.below hb⟩
structure LaysAt (w : World) (a : Option Addr) (L : List LayL) : Prop where
 len : L.length <= 9223372036854775807
 row : L = [] ∨ ∃ b off, a = some ⟨b, off, none⟩ /\ b < w.heap.size /\ ∀ (j : Nat) (x : LayL), L[j]? = some x -> LayAt w b (off + j * 9) x
theorem LaysAt.below {w w' : World} {a : Option Addr} {L : List LayL} (h : LaysAt w a L) (hb : Below w.heap.size w w') : LaysAt w' a L := by
 refine ⟨h.len, h.row.imp id ?_⟩
 rintro ⟨b, off, rfl, hs, hc⟩
 exact ⟨b, off, rfl, Nat.lt_of_lt_of_le hs hb.size, fun j x hj => (hc j x hj).below hs hb⟩
theorem LaysAt.pick {w : World} {a : Option Addr} {L : List LayL} (h : LaysAt w a L) {k : Nat} (hk : k < L.length) :
  ∃ b off x, a = some ⟨b, off, none⟩ /\ b < w.heap.size /\ L[k]? = some x /\ LayAt w b (off + k * 9) x := by
 rcases h.row with rfl | ⟨b, off, rfl, hb, hc⟩
 ·simp at hk
 ·have hd : L[k]? = some L[k] := by simp [hk]
  exact ⟨b, off, L[k], rfl, hb, hd, hc k _ hd⟩
theorem LaysAt.nil (w : World) (a : Option Addr) : LaysAt w a [] := ⟨by simp, .inl rfl⟩
structure Box9 (w : World) (g : Nat) (p0 p1 p2 p3 p4 p5 p6 p7 p8 : Value) : Prop where
 c0 : w.cell? ⟨g, 0, none⟩ = some p0
 c1 : w.cell? ⟨g, 1, none⟩ = some p1
 c2 : w.cell? ⟨g, 2, none⟩ = some p2
 c3 : w.cell? ⟨g, 3, none⟩ = some p3
 c4 : w.cell? ⟨g, 4, none⟩ = some p4
 c5 : w.cell? ⟨g, 5, none⟩ = some p5
 c6 : w.cell? ⟨g, 6, none⟩ = some p6
 c7 : w.cell? ⟨g, 7, none⟩ = some p7
 c8 : w.cell? ⟨g, 8, none⟩ = some p8
 lt : g < w.heap.size
theorem Box9.below {w w' : World} {g : Nat} {p0 p1 p2 p3 p4 p5 p6 p7 p8 : Value} (h : Box9 w g p0 p1 p2 p3 p4 p5 p6 p7 p8) (hb : Below w.heap.size w w') : Box9 w' g p0 p1 p2 p3 p4 p5 p6 p7 p8 :=
 ⟨(hb.cell h.lt).trans h.c0, (hb.cell h.lt).trans h.c1, (hb.cell h.lt).trans h.c2, (hb.cell h.lt).trans h.c3, (hb.cell h.lt).trans h.c4, (hb.cell h.lt).trans h.c5, (hb.cell h.lt).trans h.c6, (hb.cell h.lt).trans h.c7, (hb.cell h.lt).trans h.c8, Nat.lt_of_lt_of_le h.lt hb.size⟩
theorem Box9.alloc (w : World) (p0 p1 p2 p3 p4 p5 p6 p7 p8 : Value) (T : Nat) : Box9 (w.alloc (.cells #[p0, p1, p2, p3, p4, p5, p6, p7, p8] T)) w.heap.size p0 p1 p2 p3 p4 p5 p6 p7 p8 := by
 refine ⟨?_, ?_, ?_, ?_, ?_, ?_, ?_, ?_, ?_, by simp⟩ <;> (rw [World.cell?_alloc_at _ _ _ _ rfl]; rfl)
def sidB (n : Int) : Bool := decide (1 <= n) && decide (n <= 64)
def kerB (l : LayL) : Bool := sidB l.kh && (sidB l.kw && sidB l.stride)
def outB (l : LayL) : Bool := decide (1 <= l.out) && decide (l.out <= 16384)
def wgtB (l : LayL) (n : Int) : Bool := decide ((l.bias.length : Int) = l.out) && (decide (0 < l.weights.length) && (decide (l.weights.length <= 16384) && decide ((l.weights.length : Int) % n = 0)))
def noneB (l : LayL) : Bool := decide (l.weights = []) && decide (l.bias = [])
def condL (l : LayL) (i : Int) : Bool :=
 if l.kind = 1 then outB l && (wgtB l l.out && decide (l.frm = 0 /\ l.kh = 0 /\ l.kw = 0 /\ l.stride = 0 /\ l.pad = 0))
 else if l.kind = 2 then outB l && (kerB l && (decide (0 <= l.pad) && (decide (l.pad < l.kh) && (decide (l.pad < l.kw) && (wgtB l (l.out * l.kh * l.kw) && decide (l.frm = 0))))))
 else if l.kind = 3 ∨ l.kind = 4 then kerB l && (decide (l.frm = 0 /\ l.out = 0 /\ l.pad = 0) && noneB l)
 else if l.kind = 5 ∨ l.kind = 6 then decide (l.frm = 0 /\ l.out = 0 /\ l.kh = 0 /\ l.kw = 0 /\ l.stride = 0 /\ l.pad = 0) && noneB l
 else if l.kind = 7 then decide (-1 <= l.frm) && (decide (l.frm < i) && (decide (l.out = 0 /\ l.kh = 0 /\ l.kw = 0 /\ l.stride = 0 /\ l.pad = 0) && noneB l))
 else false
def numsB (l : LayL) : Bool := l.weights.all validR && l.bias.all validR
def layOK (l : LayL) (i : Int) : Bool := condL l i && numsB l
def laysFrom : List LayL -> Int -> Bool
 | [], _ => true
 | l :: r, i => layOK l i && laysFrom r (i + 1)
def validM (m : ModL) : Bool := validL m.input && (decide (m.layers.length <= 64) && laysFrom m.layers 0)
def reluL : LayL := ⟨5, 0, 0, 0, 0, 0, 0, [], []⟩
theorem layOK_relu (i : Int) : layOK reluL i = true := by
 simp [layOK, condL, reluL, numsB, noneB]
theorem laysFrom_append (A B : List LayL) (i : Int) : laysFrom (A ++ B) i = (laysFrom A i && laysFrom B (i + A.length)) := by
 induction A generalizing i with
 | nil => simp [laysFrom]
 | cons a r ih =>
  show (layOK a i && laysFrom (r ++ B) (i + 1)) = ((layOK a i && laysFrom r (i + 1)) && laysFrom B (i + ((r.length + 1 : Nat) : Int)))
  have e : i + 1 + (r.length : Int) = i + ((r.length + 1 : Nat) : Int) := by omega
  rw [ih, Bool.and_assoc, e]
theorem laysFrom_relu (n : Nat) (i : Int) : laysFrom (List.replicate n reluL) i = true := by
 induction n generalizing i with
 | zero => rfl
 | succ n ih =>
  rw [List.replicate_succ]
  show (layOK reluL i && laysFrom (List.replicate n reluL) (i + 1)) = true
  rw [layOK_relu, ih]; rfl
theorem validM_probe (input : List Int) (n : Nat) (l : LayL) : validM ⟨input, List.replicate n reluL ++ [l]⟩ = (validL input && (decide (n + 1 <= 64) && layOK l n)) := by
 unfold validM
 simp only [laysFrom_append, laysFrom_relu, List.length_append, List.length_replicate, List.length_cons, List.length_nil, laysFrom, Bool.and_true, Bool.true_and, Int.zero_add, Nat.zero_add]
theorem laysFrom_at {L : List LayL} {i : Int} {j : Nat} {l : LayL} (h : laysFrom L i = true) (hj : L[j]? = some l) : layOK l (i + j) = true := by
 induction L generalizing i j with
 | nil => simp at hj
 | cons a r ih =>
  unfold laysFrom at h
  rw [Bool.and_eq_true] at h
  cases j with
  | zero => simp at hj; subst hj; simpa using h.1
  | succ j =>
   have := ih h.2 (j := j) (by simpa using hj)
   rw [show i + ((j + 1 : Nat) : Int) = i + 1 + (j : Int) by omega]
   exact this
theorem validM_at {m : ModL} (h : validM m = true) : validL m.input = true /\ m.layers.length <= 64 /\ ∀ (j : Nat) (l : LayL), m.layers[j]? = some l -> layOK l j = true := by
 unfold validM at h
 simp only [Bool.and_eq_true, decide_eq_true_eq] at h
 refine ⟨h.1, h.2.1, fun j l hj => ?_⟩
 have := laysFrom_at h.2.2 hj
 simpa using this
def currL (input : List Int) (shapes : List (List Int)) : List Int := shapes.getLast?.getD input
def winsL (s : List Int) (l : LayL) : Int × Int × Int := (windowsL s l.kh l.kw l.stride l.pad).2
def rawL (input : List Int) (shapes : List (List Int)) (l : LayL) : List Int × Bool :=
 if l.kind = 1 then ([l.out], decide ((l.weights.length : Int) = l.out * sizeL (currL input shapes)))
 else if l.kind = 2 then ([l.out, (winsL (currL input shapes) l).1, (winsL (currL input shapes) l).2.1], decide ((winsL (currL input shapes) l).2.2 = 0) && decide ((l.weights.length : Int) = l.out * (currL input shapes).getD 0 0 * l.kh * l.kw))
 else if l.kind = 3 ∨ l.kind = 4 then ([(currL input shapes).getD 0 0, (winsL (currL input shapes) l).1, (winsL (currL input shapes) l).2.1], decide ((winsL (currL input shapes) l).2.2 = 0))
 else if l.kind = 6 then ([sizeL (currL input shapes)], true)
 else if l.kind = 7 then (currL input shapes, sameL (if 0 <= l.frm then shapes.getD l.frm.toNat [] else input) (currL input shapes))
 else (currL input shapes, true)
def outSL (input : List Int) (shapes : List (List Int)) (l : LayL) : List Int × Int :=
 if (validL input && (decide (shapes.length + 1 <= 64) && layOK l shapes.length)) && shapes.all validL then
  (if (rawL input shapes l).2 && validL (rawL input shapes l).1 then ((rawL input shapes l).1, 0) else ([], 7))
 else ([], 1)
def shapesFrom (input : List Int) : List (List Int) -> List LayL -> List (List Int) × Int × Int
 | S, [] => (S, 0, 0)
 | S, l :: r => if (outSL input S l).2 = 0 then shapesFrom input (S ++ [(outSL input S l).1]) r else ([], S.length, (outSL input S l).2)
def shapesL (m : ModL) : List (List Int) × Int × Int := if validM m then shapesFrom m.input [] m.layers else ([], 0, 1)
theorem mSide (n : Int) (w : World) : Calls Tryz.prog 144 #[.int .i64 n] w fun e w' => e = .returned (.bool (sidB n)) /\ w = w' := by
 by_cases h1 : 1 <= n
 ·by_cases h2 : n <= 64
  ·have HS := hid (show sidB n = true by simp [sidB, h1, h2])
   go_enter Tryz.func144, Tryz.ntmps144
   go_wp2
   go_ret
   exact ⟨ret_bool HS.out.symm, rfl⟩
  ·have HS := hid (show sidB n = false by simp [sidB, h2])
   go_enter Tryz.func144, Tryz.ntmps144
   go_wp2
   go_ret
   exact ⟨ret_bool HS.out.symm, rfl⟩
 ·have HS := hid (show sidB n = false by simp [sidB, h1])
  go_enter Tryz.func144, Tryz.ntmps144
  go_wp2
  go_ret
  exact ⟨ret_bool HS.out.symm, rfl⟩
theorem mEqNat {w : World} {a b : Option Addr} {l m : List Nat} (c d : Nat) (h : U32s w a l) (g : U32s w b m) :
  Calls Tryz.prog 162 #[.slice a l.length c, .slice b m.length d] w fun e w' => e = .returned (.bool (decide (l = m))) /\ Below w.heap.size w w' := by
 have hl := h.len
 have hm := g.len
 have HA := hid h
 have HB := hid g
 have HBn := hid (fun n => Below.drewN_refl w n)
 clear h g
 go_enter Tryz.func162, Tryz.ntmps162
 by_cases he : l.length = m.length
 ·have HE := hid he
  have hlb : decide (¬ (l.length : Int) = (m.length : Int)) = false := by simp; omega
  have hlc : ((l.length : Int) == (m.length : Int)) = true := by simp; omega
  have hge1 : l.length <= m.length := by omega
  have hge2 : m.length <= l.length := by omega
  go_wp2
  go_loopw [5, 13] (fun _ i wr => ∃ j : Nat, j <= l.length /\ i = .int .i64 (j : Int) /\ Hid (l.take j = m.take j) /\ Hid (∃ n, wr = w.drewN n)) (fun _ i _ => l.length - (intOf i).toNat)
  case atStart => exact ⟨0, Nat.zero_le _, rfl, by simp [Hid], 0, rfl⟩
  case round =>
   obtain ⟨j, hj, rfl, HT, HN⟩ := hrel
   obtain ⟨nd, rfl⟩ := HN.out
   by_cases hlt : j < l.length
   ·have hltm : j < m.length := by omega
    obtain ⟨p1, o1, rfl, _, cA⟩ := HA.out.pick hlt
    obtain ⟨p2, o2, rfl, _, cB⟩ := HB.out.pick hltm
    have TA := hid (take_succ_at (at_dig hlt))
    have TB := hid (take_succ_at (at_dig hltm))
    have GA := hid (at_dig hlt)
    have GB := hid (at_dig hltm)
    generalize dig l j = x at *
    generalize dig m j = y at *
    by_cases hxy : x = y
    ·subst hxy
     go_wp2
     go_quiet (fail)
     go_wp2
     go_roundw
     case rel => exact ⟨j + 1, hlt, by go_num, by unfold Hid; rw [TA.out, TB.out, HT.out], _, rfl⟩
     case measure => simp [intOf]; omega
    ·have hne : Hid (decide (l = m) = false) := by
      unfold Hid
      rw [decide_eq_false_iff_not]
      rintro rfl
      have h1 := GA.out.symm.trans GB.out
      cases h1
      exact hxy rfl
     have hxb : ((x : Int) == (y : Int)) = false := by rw [beq_eq_false_iff_ne]; omega
     go_wp2
     go_quiet (fail)
     go_wp2
     go_ret
     exact ⟨by rw [hne.out]; rfl, by rw [World.drewN_drewN]; exact HBn.out _⟩
   ·obtain rfl : j = l.length := by omega
    have he2 : Hid (decide (l = m) = true) := by
     have h1 := HT.out
     rw [List.take_length, HE.out, List.take_length] at h1
     unfold Hid; simp [h1]
    go_wp2
    go_ret
    exact ⟨by rw [he2.out]; rfl, HBn.out _⟩
 ·have hne : Hid (decide (l = m) = false) := by
   unfold Hid
   rw [decide_eq_false_iff_not]
   rintro rfl
   exact he rfl
  go_wp2
  go_ret
  exact ⟨by rw [hne.out]; rfl, Below.refl _ _⟩
def ratB (x y : RatL) : Bool := (x.neg == y.neg) && (decide (x.num = y.num) && decide (x.den = y.den))
theorem ratB_eq (x y : RatL) : ratB x y = decide (x = y) := by
 unfold ratB
 rw [Bool.eq_iff_iff]
 simp only [Bool.and_eq_true, beq_iff_eq, decide_eq_true_eq]
 constructor
 ·rintro ⟨h1, h2, h3⟩
  cases x; cases y
  simp only at h1 h2 h3
  rw [h1, h2, h3]
 ·rintro rfl
  exact ⟨rfl, rfl, rfl⟩
theorem mRatEq {w : World} {v u : Value} {x y : RatL} (hv : RatV w v x) (hu : RatV w u y) :
  Calls Tryz.prog 161 #[v, u] w fun e w' => e = .returned (.bool (decide (x = y))) /\ Below w.heap.size w w' := by
 rw [<- ratB_eq]
 obtain ⟨an, ad, cn, cd, rfl, a2, a3, a4, a5⟩ := hv.ex
 obtain ⟨bn, bd, dn, dd, rfl, b2, b3, b4, b5⟩ := hu.ex
 have q1 := a4.len
 have q2 := a5.len
 have q3 := b4.len
 have q4 := b5.len
 have H4 := hid a4
 have H5 := hid a5
 have G4 := hid b4
 have G5 := hid b5
 clear hv hu a4 a5 b4 b5
 go_enter Tryz.func161, Tryz.ntmps161
 go_upto_region 1 with fail
 have hbA : Below w.heap.size w (w.alloc (ratO x an cn ad cd 37)) := (Below.refl _ _).alloc (Nat.le_refl _) _
 have hx := Box3.alloc w (.bool x.neg) (.slice an x.num.length cn) (.slice ad x.den.length cd) 37
 generalize hW : w.alloc (ratO x an cn ad cd 37) = W at *
 have hsz : W.heap.size = w.heap.size + 1 := by rw [<- hW]; simp
 have hbB : Below W.heap.size W (W.alloc (ratO y bn dn bd dd 37)) := (Below.refl _ _).alloc (Nat.le_refl _) _
 have hy := Box3.alloc W (.bool y.neg) (.slice bn y.num.length dn) (.slice bd y.den.length dd) 37
 rw [hsz] at hy
 generalize W.alloc (ratO y bn dn bd dd 37) = V at *
 have HX := hid (hx.below hbB)
 have HY := hid hy
 have HB := hid (hbA.trans (hbB.mono hbA.size))
 clear hx hy hbA hbB hW hsz
 obtain ⟨x0, x1, x2, _, xlt⟩ := HX.out
 obtain ⟨y0, y1, y2, _, ylt⟩ := HY.out
 cases e1 : (x.neg == y.neg) with
 | false =>
  have HR : Hid (ratB x y = false) := by unfold Hid ratB; rw [e1]; rfl
  go_wp2
  go_ret
  exact ⟨ret_bool HR.out.symm, HB.out⟩
 | true =>
  have HC := hid (mEqNat cn dn (H4.out.below HB.out) (G4.out.below HB.out))
  cases e2 : decide (x.num = y.num) with
  | false =>
   have HR : Hid (ratB x y = false) := by unfold Hid ratB; rw [e1, e2]; rfl
   rw [e2] at HC
   clear e2
   go_wp2_with fail
   refine HC.out.mono ?_
   rintro e w1 ⟨rfl, hb1⟩
   have HB1 := hid (HB.out.trans (hb1.mono HB.out.size))
   clear hb1 x0 x1 x2 y0 y1 y2
   go_wp2
   go_ret
   exact ⟨ret_bool HR.out.symm, HB1.out⟩
  | true =>
   have HR : Hid (ratB x y = decide (x.den = y.den)) := by unfold Hid ratB; rw [e1, e2]; rfl
   rw [e2] at HC
   clear e2
   go_wp2_with fail
   refine HC.out.mono ?_
   rintro e w1 ⟨rfl, hb1⟩
   have HB1 := hid (HB.out.trans (hb1.mono HB.out.size))
   obtain ⟨z0, z1, z2, _, zlt⟩ := HX.out.below hb1
   obtain ⟨t0, t1, t2, _, tlt⟩ := HY.out.below hb1
   have HC2 := hid (mEqNat cd dd (H5.out.below HB1.out) (G5.out.below HB1.out))
   generalize decide (x.den = y.den) = R at *
   clear hb1 x0 x1 x2 y0 y1 y2
   go_wp2_with fail
   refine HC2.out.mono ?_
   rintro e w2 ⟨rfl, hb2⟩
   have HB2 := hid (HB1.out.trans (hb2.mono HB1.out.size))
   clear hb2 z0 z1 z2 t0 t1 t2
   go_wp2
   go_ret
   exact ⟨ret_bool HR.out.symm, HB2.out⟩
theorem mEqualFunc {w : World} {a b : Option Addr} {L M : List RatL} (c d : Nat) (h : RatsAt w a L) (g : RatsAt w b M) :
  Calls Tryz.prog 160 #[.slice a L.length c, .slice b M.length d, .func (.func 161) #[] #[]] w fun e w' => e = .returned (.bool (decide (L = M))) /\ Below w.heap.size w w' := by
 have hl := h.len
 have hm := g.len
 have HA := hid h
 have HG := hid g
 clear h g
 by_cases he : L.length = M.length
 ·have HE := hid he
  have hlb : decide (¬ (L.length : Int) = (M.length : Int)) = false := by simp; omega
  have hlc : ((L.length : Int) == (M.length : Int)) = true := by simp; omega
  have hld : ((L.length : Int) != (M.length : Int)) = false := by rw [he]; simp
  have hge1 : L.length <= M.length := by omega
  have hge2 : M.length <= L.length := by omega
  go_enter Tryz.func160, Tryz.ntmps160
  clear he
  go_wp2
  go_loopw [7, 8, 9, 17] (fun _ _ _ i wr => ∃ j : Nat, j <= L.length /\ i = .int .i64 (j : Int) /\ Hid (L.take j = M.take j) /\ Hid (Below w.heap.size w wr)) (fun _ _ _ i _ => L.length - (intOf i).toNat)
  case atStart => exact ⟨0, Nat.zero_le _, rfl, by simp [Hid], Below.refl _ _⟩
  case round =>
   obtain ⟨j, hj, rfl, HT, HB⟩ := hrel
   by_cases hlt : j < L.length
   ·have hltm : j < M.length := by omega
    obtain ⟨b1, o1, x, an, ad, cn, cd, rfl, hb1, hx, p0, p1, p2, hv⟩ := (HA.out.below HB.out).pick hlt
    obtain ⟨b2, o2, y, bn, bd, dn, dd, rfl, hb2, hy, r0, r1, r2, hu⟩ := (HG.out.below HB.out).pick hltm
    have HXx := hid hx
    have HYy := hid hy
    have TA := hid (take_succ_at hx)
    have TB := hid (take_succ_at hy)
    have HC := hid (fun wv (hb : Below wr.heap.size wr wv) => mRatEq (hv.below hb) (hu.below hb))
    have hal : Below wr.heap.size wr (wr.alloc (ratO x an cn ad cd 37)) := (Below.refl _ _).alloc (Nat.le_refl _) _
    have hal2 := hal.trans (((Below.refl _ (wr.alloc (ratO x an cn ad cd 37))).alloc (Nat.le_refl _) (ratO y bn dn bd dd 37)).mono hal.size)
    have HAl := hid hal2
    clear hx hy hv hu hal hal2
    go_wp2_with fail
    refine (HC.out _ HAl.out).mono ?_
    rintro e w2 ⟨rfl, hw2⟩
    have HB2 := hid (HB.out.trans ((HAl.out.trans (hw2.mono HAl.out.size)).mono HB.out.size))
    clear hw2 HAl HC p0 p1 p2 r0 r1 r2
    by_cases hxy : x = y
    ·have e1 : decide (x = y) = true := decide_eq_true hxy
     have HXY := hid hxy
     clear hxy
     go_wp2
     go_roundw
     case rel => exact ⟨j + 1, hlt, by go_num, by unfold Hid; rw [TA.out, TB.out, HT.out, HXY.out], HB2.out⟩
     case measure => simp [intOf]; omega
    ·have e1 : decide (x = y) = false := decide_eq_false hxy
     have hne : Hid (decide (L = M) = false) := by
      unfold Hid
      rw [decide_eq_false_iff_not]
      rintro rfl
      have h1 := HXx.out.symm.trans HYy.out
      cases h1
      exact hxy rfl
     clear hxy
     go_wp2
     go_ret
     exact ⟨ret_bool hne.out.symm, HB2.out⟩
   ·obtain rfl : j = L.length := by omega
    have he2 : Hid (decide (L = M) = true) := by
     have h1 := HT.out
     rw [List.take_length, HE.out, List.take_length] at h1
     unfold Hid; simp [h1]
    go_wp2
    go_ret
    exact ⟨ret_bool he2.out.symm, HB.out⟩
 ·have hne : Hid (decide (L = M) = false) := by
   unfold Hid
   rw [decide_eq_false_iff_not]
   rintro rfl
   exact he rfl
  go_enter Tryz.func160, Tryz.ntmps160
  go_wp2
  go_ret
  exact ⟨ret_bool hne.out.symm, Below.refl _ _⟩
theorem mRats {w : World} {a b : Option Addr} {L M : List RatL} (c d : Nat) (h : RatsAt w a L) (g : RatsAt w b M) :
  Calls Tryz.prog 143 #[.slice a L.length c, .slice b M.length d] w fun e w' => e = .returned (.bool (decide (L = M))) /\ Below w.heap.size w w' := by
 have HC := hid (mEqualFunc c d h g)
 have hl := h.len
 have hm := g.len
 generalize decide (L = M) = R at *
 clear h g
 go_enter Tryz.func143, Tryz.ntmps143
 go_wp2_with fail
 refine HC.out.mono ?_
 rintro e w2 ⟨rfl, hw2⟩
 go_wp2
 go_ret
 exact ⟨rfl, hw2⟩
def sameB (l m : LayL) : Bool := (l.kind == m.kind) && ((l.frm == m.frm) && ((l.out == m.out) && ((l.kh == m.kh) && ((l.kw == m.kw) && ((l.stride == m.stride) && ((l.pad == m.pad) && (decide (l.weights = m.weights) && decide (l.bias = m.bias))))))))
theorem RatsAt.nil (w : World) (a : Option Addr) : RatsAt w a [] := ⟨by simp, .inl rfl⟩
structure FCell (w : World) (p f : Nat) : Prop where
 cell : w.cell? ⟨p, 0, none⟩ = some (.func (.func f) #[] #[])
 lt : p < w.heap.size
theorem FCell.below {w w' : World} {p f : Nat} (h : FCell w p f) (hb : Below w.heap.size w w') : FCell w' p f := ⟨(hb.cell h.lt).trans h.cell, Nat.lt_of_lt_of_le h.lt hb.size⟩
theorem mSame {w : World} {v u : Value} {l m : LayL} (hv : LayV w v l) (hu : LayV w u m) :
  Calls Tryz.prog 119 #[v, u] w fun e w' => e = .returned (.bool (sameB l m)) /\ Below w.heap.size w w' := by
 obtain ⟨a1, a2, c1, c2, rfl, r1, r2⟩ := hv.ex
 obtain ⟨b1, b2, d1, d2, rfl, s1, s2⟩ := hu.ex
 have q1 := r1.len
 have q2 := r2.len
 have q3 := s1.len
 have q4 := s2.len
 have R1 := hid r1
 have R2 := hid r2
 have S1 := hid s1
 have S2 := hid s2
 clear hv hu r1 r2 s1 s2
 go_enter Tryz.func119, Tryz.ntmps119
 go_upto_region 1 with fail
 have hbA : Below w.heap.size w (w.alloc (.cells #[.int .i64 l.kind, .int .i64 l.frm, .int .i64 l.out, .int .i64 l.kh, .int .i64 l.kw, .int .i64 l.stride, .int .i64 l.pad, .slice a1 l.weights.length c1, .slice a2 l.bias.length c2] 42)) := (Below.refl _ _).alloc (Nat.le_refl _) _
 have hx := Box9.alloc w (.int .i64 l.kind) (.int .i64 l.frm) (.int .i64 l.out) (.int .i64 l.kh) (.int .i64 l.kw) (.int .i64 l.stride) (.int .i64 l.pad) (.slice a1 l.weights.length c1) (.slice a2 l.bias.length c2) 42
 generalize hW : w.alloc (.cells #[.int .i64 l.kind, .int .i64 l.frm, .int .i64 l.out, .int .i64 l.kh, .int .i64 l.kw, .int .i64 l.stride, .int .i64 l.pad, .slice a1 l.weights.length c1, .slice a2 l.bias.length c2] 42) = W at *
 have hsz : W.heap.size = w.heap.size + 1 := by rw [<- hW]; simp
 have hbB : Below W.heap.size W (W.alloc (.cells #[.int .i64 m.kind, .int .i64 m.frm, .int .i64 m.out, .int .i64 m.kh, .int .i64 m.kw, .int .i64 m.stride, .int .i64 m.pad, .slice b1 m.weights.length d1, .slice b2 m.bias.length d2] 42)) := (Below.refl _ _).alloc (Nat.le_refl _) _
 have hy := Box9.alloc W (.int .i64 m.kind) (.int .i64 m.frm) (.int .i64 m.out) (.int .i64 m.kh) (.int .i64 m.kw) (.int .i64 m.stride) (.int .i64 m.pad) (.slice b1 m.weights.length d1) (.slice b2 m.bias.length d2) 42
 rw [hsz] at hy
 generalize W.alloc (.cells #[.int .i64 m.kind, .int .i64 m.frm, .int .i64 m.out, .int .i64 m.kh, .int .i64 m.kw, .int .i64 m.stride, .int .i64 m.pad, .slice b1 m.weights.length d1, .slice b2 m.bias.length d2] 42) = V at *
 have HX := hid (hx.below hbB)
 have HY := hid hy
 have HB := hid (hbA.trans (hbB.mono hbA.size))
 clear hx hy hbA hbB hW hsz
 obtain ⟨x0, x1, x2, x3, x4, x5, x6, x7, x8, xlt⟩ := HX.out
 obtain ⟨y0, y1, y2, y3, y4, y5, y6, y7, y8, ylt⟩ := HY.out
 cases e1 : (l.kind == m.kind) with
 | false =>
  have HR : Hid (sameB l m = false) := by unfold Hid sameB; rw [e1]; rfl
  go_wp2
  go_ret
  exact ⟨ret_bool HR.out.symm, HB.out⟩
 | true =>
  cases e2 : (l.frm == m.frm) with
  | false =>
   have HR : Hid (sameB l m = false) := by unfold Hid sameB; rw [e1, e2]; rfl
   go_wp2
   go_ret
   exact ⟨ret_bool HR.out.symm, HB.out⟩
  | true =>
   cases e3 : (l.out == m.out) with
   | false =>
    have HR : Hid (sameB l m = false) := by unfold Hid sameB; rw [e1, e2, e3]; rfl
    go_wp2
    go_ret
    exact ⟨ret_bool HR.out.symm, HB.out⟩
   | true =>
    cases e4 : (l.kh == m.kh) with
    | false =>
     have HR : Hid (sameB l m = false) := by unfold Hid sameB; rw [e1, e2, e3, e4]; rfl
     go_wp2
     go_ret
     exact ⟨ret_bool HR.out.symm, HB.out⟩
    | true =>
     cases e5 : (l.kw == m.kw) with
     | false =>
      have HR : Hid (sameB l m = false) := by unfold Hid sameB; rw [e1, e2, e3, e4, e5]; rfl
      go_wp2
      go_ret
      exact ⟨ret_bool HR.out.symm, HB.out⟩
     | true =>
      cases e6 : (l.stride == m.stride) with
      | false =>
       have HR : Hid (sameB l m = false) := by unfold Hid sameB; rw [e1, e2, e3, e4, e5, e6]; rfl
       go_wp2
       go_ret
       exact ⟨ret_bool HR.out.symm, HB.out⟩
      | true =>
       cases e7 : (l.pad == m.pad) with
       | false =>
        have HR : Hid (sameB l m = false) := by unfold Hid sameB; rw [e1, e2, e3, e4, e5, e6, e7]; rfl
        go_wp2
        go_ret
        exact ⟨ret_bool HR.out.symm, HB.out⟩
       | true =>
        have HR0 : Hid (sameB l m = (decide (l.weights = m.weights) && decide (l.bias = m.bias))) := by unfold Hid sameB; rw [e1, e2, e3, e4, e5, e6, e7]; rfl
        have HC := hid (mRats c1 d1 (R1.out.below HB.out) (S1.out.below HB.out))
        cases e8 : decide (l.weights = m.weights) with
        | false =>
         have HR : Hid (sameB l m = false) := by unfold Hid; rw [HR0.out, e8]; rfl
         rw [e8] at HC
         clear e8
         go_wp2_with fail
         refine HC.out.mono ?_
         rintro e w1 ⟨rfl, hb1⟩
         have HB1 := hid (HB.out.trans (hb1.mono HB.out.size))
         clear hb1 x0 x1 x2 x3 x4 x5 x6 x7 x8 y0 y1 y2 y3 y4 y5 y6 y7 y8
         go_wp2
         go_ret
         exact ⟨ret_bool HR.out.symm, HB1.out⟩
        | true =>
         have HR : Hid (sameB l m = decide (l.bias = m.bias)) := by unfold Hid; rw [HR0.out, e8]; rfl
         rw [e8] at HC
         clear e8
         go_wp2_with fail
         refine HC.out.mono ?_
         rintro e w1 ⟨rfl, hb1⟩
         have HB1 := hid (HB.out.trans (hb1.mono HB.out.size))
         clear x0 x1 x2 x3 x4 x5 x6 x7 x8 y0 y1 y2 y3 y4 y5 y6 y7 y8
         obtain ⟨x0, x1, x2, x3, x4, x5, x6, x7, x8, xlt⟩ := HX.out.below hb1
         obtain ⟨y0, y1, y2, y3, y4, y5, y6, y7, y8, ylt⟩ := HY.out.below hb1
         have HC2 := hid (mRats c2 d2 (R2.out.below HB1.out) (S2.out.below HB1.out))
         generalize decide (l.bias = m.bias) = R at *
         clear hb1
         go_wp2_with fail
         refine HC2.out.mono ?_
         rintro e w2 ⟨rfl, hb2⟩
         have HB2 := hid (HB1.out.trans (hb2.mono HB1.out.size))
         clear hb2 x0 x1 x2 x3 x4 x5 x6 x7 x8 y0 y1 y2 y3 y4 y5 y6 y7 y8
         go_wp2
         go_ret
         exact ⟨ret_bool HR.out.symm, HB2.out⟩
theorem mOnly {w : World} {v u : Value} {l m : LayL} (hv : LayV w v l) (hu : LayV w u m) :
  Calls Tryz.prog 118 #[v, u] w fun e w' => e = .returned (.bool (sameB l ⟨l.kind, m.frm, m.out, m.kh, m.kw, m.stride, m.pad, m.weights, m.bias⟩)) /\ Below w.heap.size w w' := by
 obtain ⟨a1, a2, c1, c2, rfl, r1, r2⟩ := hv.ex
 obtain ⟨b1, b2, d1, d2, rfl, s1, s2⟩ := hu.ex
 have q1 := r1.len
 have q2 := r2.len
 have q3 := s1.len
 have q4 := s2.len
 have hb : Below w.heap.size w ((w.alloc (.cells #[.int .i64 l.kind, .int .i64 l.frm, .int .i64 l.out, .int .i64 l.kh, .int .i64 l.kw, .int .i64 l.stride, .int .i64 l.pad, .slice a1 l.weights.length c1, .slice a2 l.bias.length c2] 42)).alloc (.cells #[.int .i64 l.kind, .int .i64 m.frm, .int .i64 m.out, .int .i64 m.kh, .int .i64 m.kw, .int .i64 m.stride, .int .i64 m.pad, .slice b1 m.weights.length d1, .slice b2 m.bias.length d2] 42)) := ((Below.refl _ _).alloc (Nat.le_refl _) _).alloc (by simp) _
 have HB := hid hb
 have HC := hid (mSame (w := (w.alloc (.cells #[.int .i64 l.kind, .int .i64 l.frm, .int .i64 l.out, .int .i64 l.kh, .int .i64 l.kw, .int .i64 l.stride, .int .i64 l.pad, .slice a1 l.weights.length c1, .slice a2 l.bias.length c2] 42)).alloc (.cells #[.int .i64 l.kind, .int .i64 m.frm, .int .i64 m.out, .int .i64 m.kh, .int .i64 m.kw, .int .i64 m.stride, .int .i64 m.pad, .slice b1 m.weights.length d1, .slice b2 m.bias.length d2] 42)) (l := l) (m := ⟨l.kind, m.frm, m.out, m.kh, m.kw, m.stride, m.pad, m.weights, m.bias⟩) ⟨a1, a2, c1, c2, rfl, r1.below hb, r2.below hb⟩ ⟨b1, b2, d1, d2, rfl, s1.below hb, s2.below hb⟩)
 clear hv hu r1 r2 s1 s2 hb
 go_enter Tryz.func118, Tryz.ntmps118
 go_wp2_with fail
 refine HC.out.mono ?_
 rintro e w1 ⟨rfl, hb1⟩
 have HB1 := hid (HB.out.trans (hb1.mono HB.out.size))
 clear hb1 HC HB
 go_wp2
 go_ret
 exact ⟨rfl, HB1.out⟩
theorem mOut {w : World} {v : Value} {l : LayL} (hv : LayV w v l) : Calls Tryz.prog 117 #[v] w fun e w' => e = .returned (.bool (outB l)) /\ Below w.heap.size w w' := by
 obtain ⟨a1, a2, c1, c2, rfl, r1, r2⟩ := hv.ex
 have hb : Below w.heap.size w (w.alloc (.cells #[.int .i64 l.kind, .int .i64 l.frm, .int .i64 l.out, .int .i64 l.kh, .int .i64 l.kw, .int .i64 l.stride, .int .i64 l.pad, .slice a1 l.weights.length c1, .slice a2 l.bias.length c2] 42)) := (Below.refl _ _).alloc (Nat.le_refl _) _
 have HB := hid hb
 generalize hR : outB l = R
 unfold outB at hR
 generalize l.out = n at *
 clear hv r1 r2 hb
 by_cases h1 : 1 <= n
 ·by_cases h2 : n <= 16384
  ·rw [decide_eq_true h1, decide_eq_true h2] at hR
   have HR := hid hR
   clear hR
   go_enter Tryz.func117, Tryz.ntmps117
   go_wp2
   go_ret
   exact ⟨ret_bool HR.out, HB.out⟩
  ·rw [decide_eq_true h1, decide_eq_false h2] at hR
   have HR := hid hR
   clear hR
   go_enter Tryz.func117, Tryz.ntmps117
   go_wp2
   go_ret
   exact ⟨ret_bool HR.out, HB.out⟩
 ·rw [decide_eq_false h1] at hR
  have HR := hid hR
  clear hR
  go_enter Tryz.func117, Tryz.ntmps117
  go_wp2
  go_ret
  exact ⟨ret_bool HR.out, HB.out⟩
theorem mKernel {w : World} {v : Value} {l : LayL} (hv : LayV w v l) : Calls Tryz.prog 121 #[v] w fun e w' => e = .returned (.bool (kerB l)) /\ Below w.heap.size w w' := by
 obtain ⟨a1, a2, c1, c2, rfl, r1, r2⟩ := hv.ex
 have hb : Below w.heap.size w (w.alloc (.cells #[.int .i64 l.kind, .int .i64 l.frm, .int .i64 l.out, .int .i64 l.kh, .int .i64 l.kw, .int .i64 l.stride, .int .i64 l.pad, .slice a1 l.weights.length c1, .slice a2 l.bias.length c2] 42)) := (Below.refl _ _).alloc (Nat.le_refl _) _
 have HB := hid hb
 generalize hR : kerB l = R
 unfold kerB at hR
 have C1 := hid (fun W => mSide l.kh W)
 have C2 := hid (fun W => mSide l.kw W)
 have C3 := hid (fun W => mSide l.stride W)
 clear hv r1 r2 hb
 cases e1 : sidB l.kh with
 | false =>
  rw [e1] at hR C1
  have HR := hid hR
  clear hR e1
  go_enter Tryz.func121, Tryz.ntmps121
  go_wp2_with (first | (go_at_call 144; (with_reducible refine (C1.out _).mono ?_); rintro e w' ⟨rfl, rfl⟩))
  go_ret
  exact ⟨ret_bool HR.out, HB.out⟩
 | true =>
  rw [e1] at hR C1
  cases e2 : sidB l.kw with
  | false =>
   rw [e2] at hR C2
   have HR := hid hR
   clear hR e1 e2
   go_enter Tryz.func121, Tryz.ntmps121
   go_wp2_with fail
   refine (C1.out _).mono ?_
   rintro e w' ⟨rfl, rfl⟩
   go_wp2_with fail
   refine (C2.out _).mono ?_
   rintro e w' ⟨rfl, rfl⟩
   go_wp2
   go_ret
   exact ⟨ret_bool HR.out, HB.out⟩
  | true =>
   rw [e2] at hR C2
   generalize sidB l.stride = z at *
   have HR := hid hR
   clear hR e1 e2
   go_enter Tryz.func121, Tryz.ntmps121
   go_wp2_with fail
   refine (C1.out _).mono ?_
   rintro e w' ⟨rfl, rfl⟩
   go_wp2_with fail
   refine (C2.out _).mono ?_
   rintro e w' ⟨rfl, rfl⟩
   go_wp2_with fail
   refine (C3.out _).mono ?_
   rintro e w' ⟨rfl, rfl⟩
   go_wp2
   go_ret
   exact ⟨ret_bool HR.out, HB.out⟩
theorem mWeights {w : World} {v : Value} {l : LayL} (hv : LayV w v l) (n : Int) (h1 : 1 <= n) (h2 : n <= 1000000000) : Calls Tryz.prog 124 #[v, .int .i64 n] w fun e w' => e = .returned (.bool (wgtB l n)) /\ Below w.heap.size w w' := by
 obtain ⟨a1, a2, c1, c2, rfl, r1, r2⟩ := hv.ex
 have hb : Below w.heap.size w (w.alloc (.cells #[.int .i64 l.kind, .int .i64 l.frm, .int .i64 l.out, .int .i64 l.kh, .int .i64 l.kw, .int .i64 l.stride, .int .i64 l.pad, .slice a1 l.weights.length c1, .slice a2 l.bias.length c2] 42)) := (Below.refl _ _).alloc (Nat.le_refl _) _
 have HB := hid hb
 have q1 := r1.len
 have q2 := r2.len
 generalize hR : wgtB l n = R
 unfold wgtB at hR
 clear hv r1 r2 hb
 by_cases e1 : (l.bias.length : Int) = l.out
 ·have t1 : ((l.bias.length : Int) == l.out) = true := by rw [beq_iff_eq]; exact e1
  rw [decide_eq_true e1] at hR
  clear e1
  by_cases e2 : 0 < l.weights.length
  ·by_cases e3 : l.weights.length <= 16384
   ·rw [decide_eq_true e2, decide_eq_true e3] at hR
    by_cases e4 : (l.weights.length : Int) % n = 0
    ·have t4 : ((l.weights.length : Int) % n == 0) = true := by rw [beq_iff_eq]; exact e4
     rw [decide_eq_true e4] at hR
     have HR := hid hR
     clear hR e4
     go_enter Tryz.func124, Tryz.ntmps124
     go_wp2
     go_ret
     exact ⟨ret_bool HR.out, HB.out⟩
    ·have t4 : ((l.weights.length : Int) % n == 0) = false := by rw [beq_eq_false_iff_ne]; exact e4
     rw [decide_eq_false e4] at hR
     have HR := hid hR
     clear hR e4
     go_enter Tryz.func124, Tryz.ntmps124
     go_wp2
     go_ret
     exact ⟨ret_bool HR.out, HB.out⟩
   ·rw [decide_eq_true e2, decide_eq_false e3] at hR
    have HR := hid hR
    clear hR
    go_enter Tryz.func124, Tryz.ntmps124
    go_wp2
    go_ret
    exact ⟨ret_bool HR.out, HB.out⟩
  ·rw [decide_eq_false e2] at hR
   have HR := hid hR
   clear hR
   go_enter Tryz.func124, Tryz.ntmps124
   go_wp2
   go_ret
   exact ⟨ret_bool HR.out, HB.out⟩
 ·have t1 : ((l.bias.length : Int) == l.out) = false := by rw [beq_eq_false_iff_ne]; exact e1
  rw [decide_eq_false e1] at hR
  have HR := hid hR
  clear hR e1
  go_enter Tryz.func124, Tryz.ntmps124
  go_wp2
  go_ret
  exact ⟨ret_bool HR.out, HB.out⟩
theorem mBare {w : World} {v : Value} {l : LayL} (hv : LayV w v l) (i : Int) {p : Nat} (hpp : FCell w p 118) :
  Calls Tryz.prog 122 #[v, .int .i64 i, .pointer (some ⟨p, 0, none⟩)] w fun e w' => e = .returned (.bool (sameB l ⟨l.kind, 0, 0, 0, 0, 0, 0, [], []⟩)) /\ Below w.heap.size w w' := by
 obtain ⟨a1, a2, c1, c2, rfl, r1, r2⟩ := hv.ex
 have HV := hid hv
 have q1 := r1.len
 have q2 := r2.len
 have R1 := hid r1
 have R2 := hid r2
 generalize hRr : (sameB l ⟨l.kind, 0, 0, 0, 0, 0, 0, [], []⟩) = RR
 have HRd := hid hRr
 have HPp := hid hpp
 clear hRr hv r1 r2 hpp
 go_enter Tryz.func122, Tryz.ntmps122
 go_upto_region 1 with fail
 have hb0 : Below w.heap.size w (w.alloc (layO l a1 c1 a2 c2 42)) := (Below.refl _ _).alloc (Nat.le_refl _) _
 have hx := Box9.alloc w (.int .i64 l.kind) (.int .i64 l.frm) (.int .i64 l.out) (.int .i64 l.kh) (.int .i64 l.kw) (.int .i64 l.stride) (.int .i64 l.pad) (.slice a1 l.weights.length c1) (.slice a2 l.bias.length c2) 42
 generalize w.alloc (layO l a1 c1 a2 c2 42) = W at *
 have HB := hid hb0
 have HX := hid hx
 have HW0 := hid (Below.refl W.heap.size W)
 clear hx hb0
 obtain ⟨x0, x1, x2, x3, x4, x5, x6, x7, x8, xlt⟩ := HX.out
 obtain ⟨pp, lp⟩ := HPp.out.below HB.out
 have HR : Hid (sameB l ⟨l.kind, 0, 0, 0, 0, 0, 0, [], []⟩ = RR) := HRd.out
 have HCo := hid (mOnly (m := ⟨0, 0, 0, 0, 0, 0, 0, [], []⟩) ((HV.out.below HB.out).below HW0.out) (u := .agg #[.int .i64 0, .int .i64 0, .int .i64 0, .int .i64 0, .int .i64 0, .int .i64 0, .int .i64 0, .slice none 0 0, .slice none 0 0]) ⟨none, none, 0, 0, rfl, RatsAt.nil _ _, RatsAt.nil _ _⟩)
 generalize sameB l ⟨l.kind, 0, 0, 0, 0, 0, 0, [], []⟩ = R at *
 go_wp2_with fail
 refine HCo.out.mono ?_
 rintro e w1 ⟨rfl, hb1⟩
 have HW1 := hid (HW0.out.trans (hb1.mono HW0.out.size))
 clear hb1 x0 x1 x2 x3 x4 x5 x6 x7 x8 pp lp
 obtain ⟨x0, x1, x2, x3, x4, x5, x6, x7, x8, xlt1⟩ := HX.out.below HW1.out
 obtain ⟨pp, lp⟩ := (HPp.out.below HB.out).below HW1.out
 go_wp2
 go_ret
 exact ⟨ret_bool HR.out, HB.out.trans (HW1.out.mono HB.out.size)⟩
theorem mPool {w : World} {v : Value} {l : LayL} (hv : LayV w v l) (i : Int) {p : Nat} (hpp : FCell w p 118) :
  Calls Tryz.prog 120 #[v, .int .i64 i, .pointer (some ⟨p, 0, none⟩)] w fun e w' => e = .returned (.bool (kerB l && sameB l ⟨l.kind, 0, 0, l.kh, l.kw, l.stride, 0, [], []⟩)) /\ Below w.heap.size w w' := by
 obtain ⟨a1, a2, c1, c2, rfl, r1, r2⟩ := hv.ex
 have HV := hid hv
 have q1 := r1.len
 have q2 := r2.len
 have R1 := hid r1
 have R2 := hid r2
 generalize hRr : (kerB l && sameB l ⟨l.kind, 0, 0, l.kh, l.kw, l.stride, 0, [], []⟩) = RR
 have HRd := hid hRr
 have HPp := hid hpp
 clear hRr hv r1 r2 hpp
 go_enter Tryz.func120, Tryz.ntmps120
 go_upto_region 1 with fail
 have hb0 : Below w.heap.size w (w.alloc (layO l a1 c1 a2 c2 42)) := (Below.refl _ _).alloc (Nat.le_refl _) _
 have hx := Box9.alloc w (.int .i64 l.kind) (.int .i64 l.frm) (.int .i64 l.out) (.int .i64 l.kh) (.int .i64 l.kw) (.int .i64 l.stride) (.int .i64 l.pad) (.slice a1 l.weights.length c1) (.slice a2 l.bias.length c2) 42
 generalize w.alloc (layO l a1 c1 a2 c2 42) = W at *
 have HB := hid hb0
 have HX := hid hx
 have HW0 := hid (Below.refl W.heap.size W)
 clear hx hb0
 obtain ⟨x0, x1, x2, x3, x4, x5, x6, x7, x8, xlt⟩ := HX.out
 obtain ⟨pp, lp⟩ := HPp.out.below HB.out
 have HC := hid (mKernel ((HV.out.below HB.out).below HW0.out))
 cases e1 : kerB l with
 | false =>
  have HR : Hid (false = RR) := by unfold Hid; rw [<- HRd.out, e1]; rfl
  rw [e1] at HC
  clear e1
  go_wp2_with fail
  refine HC.out.mono ?_
  rintro e w1 ⟨rfl, hb1⟩
  have HW1 := hid (HW0.out.trans (hb1.mono HW0.out.size))
  clear hb1 x0 x1 x2 x3 x4 x5 x6 x7 x8 pp lp
  obtain ⟨x0, x1, x2, x3, x4, x5, x6, x7, x8, xlt1⟩ := HX.out.below HW1.out
  obtain ⟨pp, lp⟩ := (HPp.out.below HB.out).below HW1.out
  go_wp2
  go_ret
  exact ⟨ret_bool HR.out, HB.out.trans (HW1.out.mono HB.out.size)⟩
 | true =>
  have HR : Hid (sameB l ⟨l.kind, 0, 0, l.kh, l.kw, l.stride, 0, [], []⟩ = RR) := by unfold Hid; rw [<- HRd.out, e1]; rfl
  rw [e1] at HC
  clear e1
  go_wp2_with fail
  refine HC.out.mono ?_
  rintro e w1 ⟨rfl, hb1⟩
  have HW1 := hid (HW0.out.trans (hb1.mono HW0.out.size))
  clear hb1 x0 x1 x2 x3 x4 x5 x6 x7 x8 pp lp
  obtain ⟨x0, x1, x2, x3, x4, x5, x6, x7, x8, xlt1⟩ := HX.out.below HW1.out
  obtain ⟨pp, lp⟩ := (HPp.out.below HB.out).below HW1.out
  have HCo := hid (mOnly (m := ⟨0, 0, 0, l.kh, l.kw, l.stride, 0, [], []⟩) ((HV.out.below HB.out).below HW1.out) (u := .agg #[.int .i64 0, .int .i64 0, .int .i64 0, .int .i64 l.kh, .int .i64 l.kw, .int .i64 l.stride, .int .i64 0, .slice none 0 0, .slice none 0 0]) ⟨none, none, 0, 0, rfl, RatsAt.nil _ _, RatsAt.nil _ _⟩)
  generalize sameB l ⟨l.kind, 0, 0, l.kh, l.kw, l.stride, 0, [], []⟩ = R at *
  go_wp2_with fail
  refine HCo.out.mono ?_
  rintro e w2 ⟨rfl, hb2⟩
  have HW2 := hid (HW1.out.trans (hb2.mono HW1.out.size))
  clear hb2 x0 x1 x2 x3 x4 x5 x6 x7 x8 pp lp
  obtain ⟨x0, x1, x2, x3, x4, x5, x6, x7, x8, xlt2⟩ := HX.out.below HW2.out
  obtain ⟨pp, lp⟩ := (HPp.out.below HB.out).below HW2.out
  go_wp2
  go_ret
  exact ⟨ret_bool HR.out, HB.out.trans (HW2.out.mono HB.out.size)⟩
theorem mAdd {w : World} {v : Value} {l : LayL} (hv : LayV w v l) (i : Int) {p : Nat} (hpp : FCell w p 118) :
  Calls Tryz.prog 126 #[v, .int .i64 i, .pointer (some ⟨p, 0, none⟩)] w fun e w' => e = .returned (.bool (decide (-1 <= l.frm) && (decide (l.frm < i) && sameB l ⟨l.kind, l.frm, 0, 0, 0, 0, 0, [], []⟩))) /\ Below w.heap.size w w' := by
 obtain ⟨a1, a2, c1, c2, rfl, r1, r2⟩ := hv.ex
 have HV := hid hv
 have q1 := r1.len
 have q2 := r2.len
 have R1 := hid r1
 have R2 := hid r2
 generalize hRr : (decide (-1 <= l.frm) && (decide (l.frm < i) && sameB l ⟨l.kind, l.frm, 0, 0, 0, 0, 0, [], []⟩)) = RR
 have HRd := hid hRr
 have HPp := hid hpp
 clear hRr hv r1 r2 hpp
 go_enter Tryz.func126, Tryz.ntmps126
 go_upto_region 1 with fail
 have hb0 : Below w.heap.size w (w.alloc (layO l a1 c1 a2 c2 42)) := (Below.refl _ _).alloc (Nat.le_refl _) _
 have hx := Box9.alloc w (.int .i64 l.kind) (.int .i64 l.frm) (.int .i64 l.out) (.int .i64 l.kh) (.int .i64 l.kw) (.int .i64 l.stride) (.int .i64 l.pad) (.slice a1 l.weights.length c1) (.slice a2 l.bias.length c2) 42
 generalize w.alloc (layO l a1 c1 a2 c2 42) = W at *
 have HB := hid hb0
 have HX := hid hx
 have HW0 := hid (Below.refl W.heap.size W)
 clear hx hb0
 obtain ⟨x0, x1, x2, x3, x4, x5, x6, x7, x8, xlt⟩ := HX.out
 obtain ⟨pp, lp⟩ := HPp.out.below HB.out
 by_cases e1 : -1 <= l.frm
 ·by_cases e2 : l.frm < i
  ·have HR : Hid (sameB l ⟨l.kind, l.frm, 0, 0, 0, 0, 0, [], []⟩ = RR) := by unfold Hid; rw [<- HRd.out, decide_eq_true e1, decide_eq_true e2]; rfl
   have HCo := hid (mOnly (m := ⟨0, l.frm, 0, 0, 0, 0, 0, [], []⟩) ((HV.out.below HB.out).below HW0.out) (u := .agg #[.int .i64 0, .int .i64 l.frm, .int .i64 0, .int .i64 0, .int .i64 0, .int .i64 0, .int .i64 0, .slice none 0 0, .slice none 0 0]) ⟨none, none, 0, 0, rfl, RatsAt.nil _ _, RatsAt.nil _ _⟩)
   generalize sameB l ⟨l.kind, l.frm, 0, 0, 0, 0, 0, [], []⟩ = R at *
   go_wp2_with fail
   refine HCo.out.mono ?_
   rintro e w1 ⟨rfl, hb1⟩
   have HW1 := hid (HW0.out.trans (hb1.mono HW0.out.size))
   clear hb1 x0 x1 x2 x3 x4 x5 x6 x7 x8 pp lp
   obtain ⟨x0, x1, x2, x3, x4, x5, x6, x7, x8, xlt1⟩ := HX.out.below HW1.out
   obtain ⟨pp, lp⟩ := (HPp.out.below HB.out).below HW1.out
   go_wp2
   go_ret
   exact ⟨ret_bool HR.out, HB.out.trans (HW1.out.mono HB.out.size)⟩
  ·have HR : Hid (false = RR) := by unfold Hid; rw [<- HRd.out, decide_eq_true e1, decide_eq_false e2]; rfl
   go_wp2
   go_ret
   exact ⟨ret_bool HR.out, HB.out.trans (HW0.out.mono HB.out.size)⟩
 ·have HR : Hid (false = RR) := by unfold Hid; rw [<- HRd.out, decide_eq_false e1]; rfl
  go_wp2
  go_ret
  exact ⟨ret_bool HR.out, HB.out.trans (HW0.out.mono HB.out.size)⟩
theorem mDense {w : World} {v : Value} {l : LayL} (hv : LayV w v l) (i : Int) {po pn : Nat} (hppo : FCell w po 117) (hppn : FCell w pn 118) :
  Calls Tryz.prog 123 #[v, .int .i64 i, .pointer (some ⟨po, 0, none⟩), .pointer (some ⟨pn, 0, none⟩)] w fun e w' => e = .returned (.bool (outB l && (wgtB l l.out && sameB l ⟨l.kind, 0, l.out, 0, 0, 0, 0, l.weights, l.bias⟩))) /\ Below w.heap.size w w' := by
 obtain ⟨a1, a2, c1, c2, rfl, r1, r2⟩ := hv.ex
 have HV := hid hv
 have q1 := r1.len
 have q2 := r2.len
 have R1 := hid r1
 have R2 := hid r2
 generalize hRr : (outB l && (wgtB l l.out && sameB l ⟨l.kind, 0, l.out, 0, 0, 0, 0, l.weights, l.bias⟩)) = RR
 have HRd := hid hRr
 have HPpo := hid hppo
 have HPpn := hid hppn
 clear hRr hv r1 r2 hppo hppn
 go_enter Tryz.func123, Tryz.ntmps123
 go_upto_region 1 with fail
 have hb0 : Below w.heap.size w (w.alloc (layO l a1 c1 a2 c2 42)) := (Below.refl _ _).alloc (Nat.le_refl _) _
 have hx := Box9.alloc w (.int .i64 l.kind) (.int .i64 l.frm) (.int .i64 l.out) (.int .i64 l.kh) (.int .i64 l.kw) (.int .i64 l.stride) (.int .i64 l.pad) (.slice a1 l.weights.length c1) (.slice a2 l.bias.length c2) 42
 generalize w.alloc (layO l a1 c1 a2 c2 42) = W at *
 have HB := hid hb0
 have HX := hid hx
 have HW0 := hid (Below.refl W.heap.size W)
 clear hx hb0
 obtain ⟨x0, x1, x2, x3, x4, x5, x6, x7, x8, xlt⟩ := HX.out
 obtain ⟨ppo, lpo⟩ := HPpo.out.below HB.out
 obtain ⟨ppn, lpn⟩ := HPpn.out.below HB.out
 have HC := hid (mOut ((HV.out.below HB.out).below HW0.out))
 cases e1 : outB l with
 | false =>
  have HR : Hid (false = RR) := by unfold Hid; rw [<- HRd.out, e1]; rfl
  rw [e1] at HC
  clear e1
  go_wp2_with fail
  refine HC.out.mono ?_
  rintro e w1 ⟨rfl, hb1⟩
  have HW1 := hid (HW0.out.trans (hb1.mono HW0.out.size))
  clear hb1 x0 x1 x2 x3 x4 x5 x6 x7 x8 ppo lpo ppn lpn
  obtain ⟨x0, x1, x2, x3, x4, x5, x6, x7, x8, xlt1⟩ := HX.out.below HW1.out
  obtain ⟨ppo, lpo⟩ := (HPpo.out.below HB.out).below HW1.out
  obtain ⟨ppn, lpn⟩ := (HPpn.out.below HB.out).below HW1.out
  go_wp2
  go_ret
  exact ⟨ret_bool HR.out, HB.out.trans (HW1.out.mono HB.out.size)⟩
 | true =>
  rw [e1] at HC
  have HE1 := hid e1
  obtain ⟨o1, o2⟩ : 1 <= l.out /\ l.out <= 16384 := by unfold outB at e1; simpa using e1
  clear e1
  go_wp2_with fail
  refine HC.out.mono ?_
  rintro e w1 ⟨rfl, hb1⟩
  have HW1 := hid (HW0.out.trans (hb1.mono HW0.out.size))
  clear hb1 x0 x1 x2 x3 x4 x5 x6 x7 x8 ppo lpo ppn lpn
  obtain ⟨x0, x1, x2, x3, x4, x5, x6, x7, x8, xlt1⟩ := HX.out.below HW1.out
  obtain ⟨ppo, lpo⟩ := (HPpo.out.below HB.out).below HW1.out
  obtain ⟨ppn, lpn⟩ := (HPpn.out.below HB.out).below HW1.out
  have HC2 := hid (mWeights ((HV.out.below HB.out).below HW1.out) l.out o1 (by omega))
  cases e2 : wgtB l l.out with
  | false =>
   have HR : Hid (false = RR) := by unfold Hid; rw [<- HRd.out, HE1.out, e2]; rfl
   rw [e2] at HC2
   clear e2
   go_wp2_with fail
   refine HC2.out.mono ?_
   rintro e w2 ⟨rfl, hb2⟩
   have HW2 := hid (HW1.out.trans (hb2.mono HW1.out.size))
   clear hb2 x0 x1 x2 x3 x4 x5 x6 x7 x8 ppo lpo ppn lpn
   obtain ⟨x0, x1, x2, x3, x4, x5, x6, x7, x8, xlt2⟩ := HX.out.below HW2.out
   obtain ⟨ppo, lpo⟩ := (HPpo.out.below HB.out).below HW2.out
   obtain ⟨ppn, lpn⟩ := (HPpn.out.below HB.out).below HW2.out
   go_wp2
   go_ret
   exact ⟨ret_bool HR.out, HB.out.trans (HW2.out.mono HB.out.size)⟩
  | true =>
   have HR : Hid (sameB l ⟨l.kind, 0, l.out, 0, 0, 0, 0, l.weights, l.bias⟩ = RR) := by unfold Hid; rw [<- HRd.out, HE1.out, e2]; rfl
   rw [e2] at HC2
   clear e2
   go_wp2_with fail
   refine HC2.out.mono ?_
   rintro e w2 ⟨rfl, hb2⟩
   have HW2 := hid (HW1.out.trans (hb2.mono HW1.out.size))
   clear hb2 x0 x1 x2 x3 x4 x5 x6 x7 x8 ppo lpo ppn lpn
   obtain ⟨x0, x1, x2, x3, x4, x5, x6, x7, x8, xlt2⟩ := HX.out.below HW2.out
   obtain ⟨ppo, lpo⟩ := (HPpo.out.below HB.out).below HW2.out
   obtain ⟨ppn, lpn⟩ := (HPpn.out.below HB.out).below HW2.out
   have HCo := hid (mOnly (m := ⟨0, 0, l.out, 0, 0, 0, 0, l.weights, l.bias⟩) ((HV.out.below HB.out).below HW2.out) (u := .agg #[.int .i64 0, .int .i64 0, .int .i64 l.out, .int .i64 0, .int .i64 0, .int .i64 0, .int .i64 0, .slice a1 l.weights.length c1, .slice a2 l.bias.length c2]) ⟨a1, a2, c1, c2, rfl, (R1.out.below HB.out).below HW2.out, (R2.out.below HB.out).below HW2.out⟩)
   generalize sameB l ⟨l.kind, 0, l.out, 0, 0, 0, 0, l.weights, l.bias⟩ = R at *
   go_wp2_with fail
   refine HCo.out.mono ?_
   rintro e w3 ⟨rfl, hb3⟩
   have HW3 := hid (HW2.out.trans (hb3.mono HW2.out.size))
   clear hb3 x0 x1 x2 x3 x4 x5 x6 x7 x8 ppo lpo ppn lpn
   obtain ⟨x0, x1, x2, x3, x4, x5, x6, x7, x8, xlt3⟩ := HX.out.below HW3.out
   obtain ⟨ppo, lpo⟩ := (HPpo.out.below HB.out).below HW3.out
   obtain ⟨ppn, lpn⟩ := (HPpn.out.below HB.out).below HW3.out
   go_wp2
   go_ret
   exact ⟨ret_bool HR.out, HB.out.trans (HW3.out.mono HB.out.size)⟩
theorem conv_bd {a b c : Int} (a1 : 1 <= a) (a2 : a <= 16384) (b1 : 1 <= b) (b2 : b <= 64) (c1 : 1 <= c) (c2 : c <= 64) : (1 <= a * b /\ a * b <= 1048576) /\ 1 <= a * b * c /\ a * b * c <= 67108864 := by
 have h1 : 1 * 1 <= a * b := Int.mul_le_mul a1 b1 (by omega) (by omega)
 have h2 : a * b <= 16384 * 64 := Int.mul_le_mul a2 b2 (by omega) (by omega)
 have h3 : 1 * 1 <= a * b * c := Int.mul_le_mul (by omega) c1 (by omega) (by omega)
 have h4 : a * b * c <= 1048576 * 64 := Int.mul_le_mul (by omega) c2 (by omega) (by omega)
 omega
theorem mConv {w : World} {v : Value} {l : LayL} (hv : LayV w v l) (i : Int) {po pn : Nat} (hppo : FCell w po 117) (hppn : FCell w pn 118) :
  Calls Tryz.prog 125 #[v, .int .i64 i, .pointer (some ⟨po, 0, none⟩), .pointer (some ⟨pn, 0, none⟩)] w fun e w' => e = .returned (.bool (outB l && (kerB l && (decide (0 <= l.pad) && (decide (l.pad < l.kh) && (decide (l.pad < l.kw) && (wgtB l (l.out * l.kh * l.kw) && sameB l ⟨l.kind, 0, l.out, l.kh, l.kw, l.stride, l.pad, l.weights, l.bias⟩))))))) /\ Below w.heap.size w w' := by
 obtain ⟨a1, a2, c1, c2, rfl, r1, r2⟩ := hv.ex
 have HV := hid hv
 have q1 := r1.len
 have q2 := r2.len
 have R1 := hid r1
 have R2 := hid r2
 generalize hRr : (outB l && (kerB l && (decide (0 <= l.pad) && (decide (l.pad < l.kh) && (decide (l.pad < l.kw) && (wgtB l (l.out * l.kh * l.kw) && sameB l ⟨l.kind, 0, l.out, l.kh, l.kw, l.stride, l.pad, l.weights, l.bias⟩)))))) = RR
 have HRd := hid hRr
 have HPpo := hid hppo
 have HPpn := hid hppn
 clear hRr hv r1 r2 hppo hppn
 go_enter Tryz.func125, Tryz.ntmps125
 go_upto_region 1 with fail
 have hb0 : Below w.heap.size w (w.alloc (layO l a1 c1 a2 c2 42)) := (Below.refl _ _).alloc (Nat.le_refl _) _
 have hx := Box9.alloc w (.int .i64 l.kind) (.int .i64 l.frm) (.int .i64 l.out) (.int .i64 l.kh) (.int .i64 l.kw) (.int .i64 l.stride) (.int .i64 l.pad) (.slice a1 l.weights.length c1) (.slice a2 l.bias.length c2) 42
 generalize w.alloc (layO l a1 c1 a2 c2 42) = W at *
 have HB := hid hb0
 have HX := hid hx
 have HW0 := hid (Below.refl W.heap.size W)
 clear hx hb0
 obtain ⟨x0, x1, x2, x3, x4, x5, x6, x7, x8, xlt⟩ := HX.out
 obtain ⟨ppo, lpo⟩ := HPpo.out.below HB.out
 obtain ⟨ppn, lpn⟩ := HPpn.out.below HB.out
 have HC := hid (mOut ((HV.out.below HB.out).below HW0.out))
 cases e1 : outB l with
 | false =>
  have HR : Hid (false = RR) := by unfold Hid; rw [<- HRd.out, e1]; rfl
  rw [e1] at HC
  clear e1
  go_wp2_with fail
  refine HC.out.mono ?_
  rintro e w1 ⟨rfl, hb1⟩
  have HW1 := hid (HW0.out.trans (hb1.mono HW0.out.size))
  clear hb1 x0 x1 x2 x3 x4 x5 x6 x7 x8 ppo lpo ppn lpn
  obtain ⟨x0, x1, x2, x3, x4, x5, x6, x7, x8, xlt1⟩ := HX.out.below HW1.out
  obtain ⟨ppo, lpo⟩ := (HPpo.out.below HB.out).below HW1.out
  obtain ⟨ppn, lpn⟩ := (HPpn.out.below HB.out).below HW1.out
  go_wp2
  go_ret
  exact ⟨ret_bool HR.out, HB.out.trans (HW1.out.mono HB.out.size)⟩
 | true =>
  rw [e1] at HC
  have HE1 := hid e1
  obtain ⟨o1, o2⟩ : 1 <= l.out /\ l.out <= 16384 := by unfold outB at e1; simpa using e1
  clear e1
  go_wp2_with fail
  refine HC.out.mono ?_
  rintro e w1 ⟨rfl, hb1⟩
  have HW1 := hid (HW0.out.trans (hb1.mono HW0.out.size))
  clear hb1 x0 x1 x2 x3 x4 x5 x6 x7 x8 ppo lpo ppn lpn
  obtain ⟨x0, x1, x2, x3, x4, x5, x6, x7, x8, xlt1⟩ := HX.out.below HW1.out
  obtain ⟨ppo, lpo⟩ := (HPpo.out.below HB.out).below HW1.out
  obtain ⟨ppn, lpn⟩ := (HPpn.out.below HB.out).below HW1.out
  have HC2 := hid (mKernel ((HV.out.below HB.out).below HW1.out))
  cases e2 : kerB l with
  | false =>
   have HR : Hid (false = RR) := by unfold Hid; rw [<- HRd.out, HE1.out, e2]; rfl
   rw [e2] at HC2
   clear e2
   go_wp2_with fail
   refine HC2.out.mono ?_
   rintro e w2 ⟨rfl, hb2⟩
   have HW2 := hid (HW1.out.trans (hb2.mono HW1.out.size))
   clear hb2 x0 x1 x2 x3 x4 x5 x6 x7 x8 ppo lpo ppn lpn
   obtain ⟨x0, x1, x2, x3, x4, x5, x6, x7, x8, xlt2⟩ := HX.out.below HW2.out
   obtain ⟨ppo, lpo⟩ := (HPpo.out.below HB.out).below HW2.out
   obtain ⟨ppn, lpn⟩ := (HPpn.out.below HB.out).below HW2.out
   go_wp2
   go_ret
   exact ⟨ret_bool HR.out, HB.out.trans (HW2.out.mono HB.out.size)⟩
  | true =>
   rw [e2] at HC2
   have HE2 := hid e2
   obtain ⟨⟨k1, k2⟩, ⟨k3, k4⟩, _⟩ : (1 <= l.kh /\ l.kh <= 64) /\ (1 <= l.kw /\ l.kw <= 64) /\ (1 <= l.stride /\ l.stride <= 64) := by unfold kerB sidB at e2; simpa using e2
   clear e2
   obtain ⟨⟨m1, m2⟩, m3, m4⟩ := conv_bd o1 o2 k1 k2 k3 k4
   go_wp2_with fail
   refine HC2.out.mono ?_
   rintro e w2 ⟨rfl, hb2⟩
   have HW2 := hid (HW1.out.trans (hb2.mono HW1.out.size))
   clear hb2 x0 x1 x2 x3 x4 x5 x6 x7 x8 ppo lpo ppn lpn
   obtain ⟨x0, x1, x2, x3, x4, x5, x6, x7, x8, xlt2⟩ := HX.out.below HW2.out
   obtain ⟨ppo, lpo⟩ := (HPpo.out.below HB.out).below HW2.out
   obtain ⟨ppn, lpn⟩ := (HPpn.out.below HB.out).below HW2.out
   by_cases g1 : 0 <= l.pad
   ·by_cases g2 : l.pad < l.kh
    ·by_cases g3 : l.pad < l.kw
     ·have HC3 := hid (mWeights ((HV.out.below HB.out).below HW2.out) (l.out * l.kh * l.kw) m3 (by omega))
      cases e3 : wgtB l (l.out * l.kh * l.kw) with
      | false =>
       have HR : Hid (false = RR) := by unfold Hid; rw [<- HRd.out, HE1.out, HE2.out, decide_eq_true g1, decide_eq_true g2, decide_eq_true g3, e3]; rfl
       rw [e3] at HC3
       clear e3
       go_wp2_with fail
       refine HC3.out.mono ?_
       rintro e w3 ⟨rfl, hb3⟩
       have HW3 := hid (HW2.out.trans (hb3.mono HW2.out.size))
       clear hb3 x0 x1 x2 x3 x4 x5 x6 x7 x8 ppo lpo ppn lpn
       obtain ⟨x0, x1, x2, x3, x4, x5, x6, x7, x8, xlt3⟩ := HX.out.below HW3.out
       obtain ⟨ppo, lpo⟩ := (HPpo.out.below HB.out).below HW3.out
       obtain ⟨ppn, lpn⟩ := (HPpn.out.below HB.out).below HW3.out
       go_wp2
       go_ret
       exact ⟨ret_bool HR.out, HB.out.trans (HW3.out.mono HB.out.size)⟩
      | true =>
       have HR : Hid (sameB l ⟨l.kind, 0, l.out, l.kh, l.kw, l.stride, l.pad, l.weights, l.bias⟩ = RR) := by unfold Hid; rw [<- HRd.out, HE1.out, HE2.out, decide_eq_true g1, decide_eq_true g2, decide_eq_true g3, e3]; rfl
       rw [e3] at HC3
       clear e3
       go_wp2_with fail
       refine HC3.out.mono ?_
       rintro e w3 ⟨rfl, hb3⟩
       have HW3 := hid (HW2.out.trans (hb3.mono HW2.out.size))
       clear hb3 x0 x1 x2 x3 x4 x5 x6 x7 x8 ppo lpo ppn lpn
       obtain ⟨x0, x1, x2, x3, x4, x5, x6, x7, x8, xlt3⟩ := HX.out.below HW3.out
       obtain ⟨ppo, lpo⟩ := (HPpo.out.below HB.out).below HW3.out
       obtain ⟨ppn, lpn⟩ := (HPpn.out.below HB.out).below HW3.out
       have HCo := hid (mOnly (m := ⟨0, 0, l.out, l.kh, l.kw, l.stride, l.pad, l.weights, l.bias⟩) ((HV.out.below HB.out).below HW3.out) (u := .agg #[.int .i64 0, .int .i64 0, .int .i64 l.out, .int .i64 l.kh, .int .i64 l.kw, .int .i64 l.stride, .int .i64 l.pad, .slice a1 l.weights.length c1, .slice a2 l.bias.length c2]) ⟨a1, a2, c1, c2, rfl, (R1.out.below HB.out).below HW3.out, (R2.out.below HB.out).below HW3.out⟩)
       generalize sameB l ⟨l.kind, 0, l.out, l.kh, l.kw, l.stride, l.pad, l.weights, l.bias⟩ = R at *
       go_wp2_with fail
       refine HCo.out.mono ?_
       rintro e w4 ⟨rfl, hb4⟩
       have HW4 := hid (HW3.out.trans (hb4.mono HW3.out.size))
       clear hb4 x0 x1 x2 x3 x4 x5 x6 x7 x8 ppo lpo ppn lpn
       obtain ⟨x0, x1, x2, x3, x4, x5, x6, x7, x8, xlt4⟩ := HX.out.below HW4.out
       obtain ⟨ppo, lpo⟩ := (HPpo.out.below HB.out).below HW4.out
       obtain ⟨ppn, lpn⟩ := (HPpn.out.below HB.out).below HW4.out
       go_wp2
       go_ret
       exact ⟨ret_bool HR.out, HB.out.trans (HW4.out.mono HB.out.size)⟩
     ·have HR : Hid (false = RR) := by unfold Hid; rw [<- HRd.out, HE1.out, HE2.out, decide_eq_true g1, decide_eq_true g2, decide_eq_false g3]; rfl
      go_wp2
      go_ret
      exact ⟨ret_bool HR.out, HB.out.trans (HW2.out.mono HB.out.size)⟩
    ·have HR : Hid (false = RR) := by unfold Hid; rw [<- HRd.out, HE1.out, HE2.out, decide_eq_true g1, decide_eq_false g2]; rfl
     go_wp2
     go_ret
     exact ⟨ret_bool HR.out, HB.out.trans (HW2.out.mono HB.out.size)⟩
   ·have HR : Hid (false = RR) := by unfold Hid; rw [<- HRd.out, HE1.out, HE2.out, decide_eq_false g1]; rfl
    go_wp2
    go_ret
    exact ⟨ret_bool HR.out, HB.out.trans (HW2.out.mono HB.out.size)⟩
theorem cond1 (l : LayL) (i : Int) (h : l.kind = 1) : (outB l && (wgtB l l.out && sameB l ⟨l.kind, 0, l.out, 0, 0, 0, 0, l.weights, l.bias⟩)) = condL l i := by
 unfold condL sameB
 rw [if_pos h, Bool.eq_iff_iff]
 simp only [Bool.and_eq_true, beq_iff_eq, decide_eq_true_eq, true_and, and_true]
theorem cond2 (l : LayL) (i : Int) (h : l.kind = 2) : (outB l && (kerB l && (decide (0 <= l.pad) && (decide (l.pad < l.kh) && (decide (l.pad < l.kw) && (wgtB l (l.out * l.kh * l.kw) && sameB l ⟨l.kind, 0, l.out, l.kh, l.kw, l.stride, l.pad, l.weights, l.bias⟩)))))) = condL l i := by
 unfold condL sameB
 rw [if_neg (by omega), if_pos h, Bool.eq_iff_iff]
 simp only [Bool.and_eq_true, beq_iff_eq, decide_eq_true_eq, true_and, and_true]
theorem cond3 (l : LayL) (i : Int) (h : l.kind = 3 ∨ l.kind = 4) : (kerB l && sameB l ⟨l.kind, 0, 0, l.kh, l.kw, l.stride, 0, [], []⟩) = condL l i := by
 unfold condL sameB noneB
 rw [if_neg (by omega), if_neg (by omega), if_pos h, Bool.eq_iff_iff]
 simp only [Bool.and_eq_true, beq_iff_eq, decide_eq_true_eq, true_and, and_true]
 constructor
 ·rintro ⟨k0, k1, k2, k3, k4, k5⟩; exact ⟨k0, ⟨k1, k2, k3⟩, k4, k5⟩
 ·rintro ⟨k0, ⟨k1, k2, k3⟩, k4, k5⟩; exact ⟨k0, k1, k2, k3, k4, k5⟩
theorem cond5 (l : LayL) (i : Int) (h : l.kind = 5 ∨ l.kind = 6) : (sameB l ⟨l.kind, 0, 0, 0, 0, 0, 0, [], []⟩) = condL l i := by
 unfold condL sameB noneB
 rw [if_neg (by omega), if_neg (by omega), if_neg (by omega), if_pos h, Bool.eq_iff_iff]
 simp only [Bool.and_eq_true, beq_iff_eq, decide_eq_true_eq, true_and, and_true]
 constructor
 ·rintro ⟨k1, k2, k3, k4, k5, k6, k7, k8⟩; exact ⟨⟨k1, k2, k3, k4, k5, k6⟩, k7, k8⟩
 ·rintro ⟨⟨k1, k2, k3, k4, k5, k6⟩, k7, k8⟩; exact ⟨k1, k2, k3, k4, k5, k6, k7, k8⟩
theorem cond7 (l : LayL) (i : Int) (h : l.kind = 7) : (decide (-1 <= l.frm) && (decide (l.frm < i) && sameB l ⟨l.kind, l.frm, 0, 0, 0, 0, 0, [], []⟩)) = condL l i := by
 unfold condL sameB noneB
 rw [if_neg (by omega), if_neg (by omega), if_neg (by omega), if_neg (by omega), if_pos h, Bool.eq_iff_iff]
 simp only [Bool.and_eq_true, beq_iff_eq, decide_eq_true_eq, true_and, and_true]
 constructor
 ·rintro ⟨k1, k2, k3, k4, k5, k6, k7, k8, k9⟩; exact ⟨k1, k2, ⟨k3, k4, k5, k6, k7⟩, k8, k9⟩
 ·rintro ⟨k1, k2, ⟨k3, k4, k5, k6, k7⟩, k8, k9⟩; exact ⟨k1, k2, k3, k4, k5, k6, k7, k8, k9⟩
end Go.Proofs.YtoppijdedkdjeaaGreat

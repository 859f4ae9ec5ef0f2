/-
  Contracts of the functions that the statements reach, in the order in which they are built: KerGat.
-/
import Derived.Test.YthlmgejikbmmaaaM14
set_option linter.unusedVariables false
set_option linter.unusedSimpArgs false
set_option linter.constructorNameAsVariable false
set_option linter.deprecated false

/-
  The walk of KernelGathers: by contract.
-/
namespace Go.Proofs.Ythlmgejikbmmaaa
open Go.RowKit

/-- The slice at a reads as the bytes l. -/
structure U8s (w : World) (a : Option Addr) (l : List Int) : Prop where
  wf : ∀ x ∈ l, 0 ≤ x ∧ x ≤ 255
  len : l.length ≤ 9223372036854775807
  row : l = [] ∨ ∃ b off, a = some ⟨b, off, none⟩ ∧ b < w.heap.size ∧ ∀ j, j < l.length → w.cell? ⟨b, off + j, none⟩ = some (.int .u8 (l.getD j 0))
theorem U8s.below {w w' : World} {a : Option Addr} {l : List Int} (h : U8s w a l) (hb : Below w.heap.size w w') : U8s w' a l := by
  refine ⟨h.wf, h.len, h.row.imp id ?_⟩
  rintro ⟨b, off, rfl, hs, hc⟩
  exact ⟨b, off, rfl, Nat.lt_of_lt_of_le hs hb.size, fun j hj => (hb.cell hs).trans (hc j hj)⟩
theorem U8s.cells {w : World} {a : Option Addr} {l : List Int} (h : U8s w a l) {k : Nat} (hk : k < l.length) : ∃ b off, a = some ⟨b, off, none⟩ ∧ b < w.heap.size ∧ w.cell? ⟨b, off + k, none⟩ = some (.int .u8 (l.getD k 0)) ∧ 0 ≤ l.getD k 0 ∧ l.getD k 0 ≤ 255 := by
  rcases h.row with rfl | ⟨b, off, rfl, hb, hc⟩
  · simp at hk
  · have := h.wf _ (List.mem_of_getElem? (getD_at hk))
    exact ⟨b, off, rfl, hb, hc k hk, this.1, this.2⟩

def firstL (A : List Int) (n : Nat) : List Int := A.map fun x => x % ((n : Int) + 1) - 1
def bothL (Bs A : List Int) (n : Nat) : List Int := (firstL Bs A.length).map fun k => if 0 ≤ k then (firstL A n).getD k.toNat 0 else k
theorem firstL_at {A : List Int} {n k : Nat} (h : k < A.length) : (firstL A n)[k]? = some (A.getD k 0 % ((n : Int) + 1) - 1) := by
  unfold firstL; rw [List.getElem?_map, getD_at h]; rfl
theorem firstL_len (A : List Int) (n : Nat) : (firstL A n).length = A.length := by simp [firstL]
theorem firstL_range {A : List Int} {n : Nat} : ∀ x ∈ firstL A n, -1 ≤ x ∧ x < n := by
  intro x hx
  obtain ⟨y, _, rfl⟩ := List.mem_map.1 hx
  have h1 := Int.emod_nonneg y (b := (n : Int) + 1) (by omega)
  have h2 := Int.emod_lt_of_pos y (b := (n : Int) + 1) (by omega)
  omega

/-- Two rows of the call's own lie apart. -/
def Apart (s b : Value) : Prop := ∀ p, s.ownBlock = some p → b.ownBlock ≠ some p
theorem Apart.symm {s b : Value} (h : Apart s b) : Apart b s := fun p h1 h2 => h p h2 h1
theorem Apart.kept {w w' : World} {s b : Value} {base E n : Nat} {xs : List Value} (h : Apart s b) (ho : w.ownsRow base E 1 b n xs) (hg : w.grownBy w' s.ownBlock) : w'.ownsRow base E 1 b n xs := by
  refine ho.kept hg ?_
  cases hb : b.ownBlock with
  | none => exact .inl rfl
  | some q => exact .inr fun e => h q e.symm hb
theorem Apart.next {w : World} {s s' b : Value} {base E n : Nat} {xs : List Value} (h : Apart s b) (ho : w.ownsRow base E 1 b n xs) (hn : Next w s s') : Apart s' b := by
  intro p hp hb
  rcases hn with hn | ⟨g, hg, hge⟩
  · rw [hn] at hp; exact h p hp hb
  · rw [hg] at hp; cases hp
    have := (ho.lt _ hb).2
    omega

def gatG (aa ab fa sa : Option Addr) (n la lb ca cb fc sc : Nat) (B : Nat) (i : Nat) (v : Value) (w : World) : Prop :=
  match i with
  | 0 => v = .int .i64 (n : Int)
  | 1 => v = .slice aa la ca
  | 2 => v = .int .i64 (la : Int)
  | 3 => v = .slice ab lb cb
  | 4 => v = .int .i64 (lb : Int)
  | 5 => RowT B 3 (#[.int .i64 (n : Int), .int .i64 (la : Int), .int .i64 (lb : Int)]) (3) v w
  | 6 => v = .slice fa la fc
  | 7 => v = .agg #[.int .i64 1, .int .i64 1, .int .i64 0, .int .i64 0, .int .i64 0, .int .i64 0, .slice fa la fc, .slice none 0 0, .slice none 0 0, .int .i64 0, .int .i64 0]
  | 8 => v = .slice sa lb sc
  | 9 => v = .agg #[.int .i64 1, .int .i64 2, .int .i64 1, .int .i64 0, .int .i64 0, .int .i64 0, .slice sa lb sc, .slice none 0 0, .slice none 0 0, .int .i64 0, .int .i64 0]
  | 10 => RowT B 50 (#[.int .i64 1, .int .i64 1, .int .i64 0, .int .i64 0, .int .i64 0, .int .i64 0, .slice fa la fc, .slice none 0 0, .slice none 0 0, .int .i64 0, .int .i64 0, .int .i64 1, .int .i64 2, .int .i64 1, .int .i64 0, .int .i64 0, .int .i64 0, .slice sa lb sc, .slice none 0 0, .slice none 0 0, .int .i64 0, .int .i64 0]) (2) v w
  | 11 => v = .int .i64 (n : Int)
  | 12 => RowT B 78 (madeCells #[.bool false, .slice none 0 0, .slice none 0 0] (n * 3)) (n) v w
  | 13 => v = .int .i64 (n : Int)
  | 14 => RowT B 78 (madeCells #[.bool false, .slice none 0 0, .slice none 0 0] (n * 3)) (n) v w
  | 15 => v = .slice ab lb cb
  | 16 => v = .int .i64 (lb : Int)
  | 17 => RowT B 78 (madeCells #[.bool false, .slice none 0 0, .slice none 0 0] (lb * 3)) (lb) v w
  | 18 => ∃ r5 r10 r12 r14 r17, RowT B 3 (#[.int .i64 (n : Int), .int .i64 (la : Int), .int .i64 (lb : Int)]) (3) r5 w ∧ RowT B 50 (#[.int .i64 1, .int .i64 1, .int .i64 0, .int .i64 0, .int .i64 0, .int .i64 0, .slice fa la fc, .slice none 0 0, .slice none 0 0, .int .i64 0, .int .i64 0, .int .i64 1, .int .i64 2, .int .i64 1, .int .i64 0, .int .i64 0, .int .i64 0, .slice sa lb sc, .slice none 0 0, .slice none 0 0, .int .i64 0, .int .i64 0]) (2) r10 w ∧ RowT B 78 (madeCells #[.bool false, .slice none 0 0, .slice none 0 0] (n * 3)) (n) r12 w ∧ RowT B 78 (madeCells #[.bool false, .slice none 0 0, .slice none 0 0] (n * 3)) (n) r14 w ∧ RowT B 78 (madeCells #[.bool false, .slice none 0 0, .slice none 0 0] (lb * 3)) (lb) r17 w ∧ v = .agg #[r5, r10, .int .i64 2, .int .i64 0, .int .i64 0, r12, r14, r17]
  | 19 => CellT B 45 #[.slice none 0 0, .slice none 0 0, .int .i64 0, .int .i64 0, .int .i64 0, .slice none 0 0, .slice none 0 0, .slice none 0 0] v w
  | _ => True
theorem gatG_below {aa ab fa sa : Option Addr} {n la lb ca cb fc sc : Nat} {B i : Nat} {v : Value} {w w' : World} (h : gatG aa ab fa sa n la lb ca cb fc sc B i v w) (hb : Below w.heap.size w w') : gatG aa ab fa sa n la lb ca cb fc sc B i v w' := by
  match i, h with
  | 0, h => exact h
  | 1, h => exact h
  | 2, h => exact h
  | 3, h => exact h
  | 4, h => exact h
  | 5, h => exact RowT.below h hb
  | 6, h => exact h
  | 7, h => exact h
  | 8, h => exact h
  | 9, h => exact h
  | 10, h => exact RowT.below h hb
  | 11, h => exact h
  | 12, h => exact RowT.below h hb
  | 13, h => exact h
  | 14, h => exact RowT.below h hb
  | 15, h => exact h
  | 16, h => exact h
  | 17, h => exact RowT.below h hb
  | 18, ⟨r5, r10, r12, r14, r17, h5, h10, h12, h14, h17, hv⟩ => exact ⟨r5, r10, r12, r14, r17, h5.below hb, h10.below hb, h12.below hb, h14.below hb, h17.below hb, hv⟩
  | 19, h => exact CellT.below h hb
  | _ + 20, _ => trivial

def gatO (d : Int) (s : Int) (L : List Int) : OpL := ⟨1, d, s, 0, 0, 0, L, [], [], 0, 0⟩
def gatK (F S : List Int) (n la lb : Nat) : KerL := ⟨[n, la, lb], [gatO 1 0 F, gatO 2 1 S], 2, 0, 0, List.replicate n zeroR, List.replicate n zeroR, List.replicate lb zeroR⟩
def gatL (Bt : List Int) (n lb : Nat) : KerL := ⟨[n, lb], [gatO 1 0 Bt], 1, 0, 0, List.replicate n zeroR, List.replicate n zeroR, List.replicate lb zeroR⟩
theorem gatO_fits {L : List Int} {d s : Int} {n m : Int} {t : Int} (hl : (L.length : Int) = n) (hr : ∀ x ∈ L, -1 ≤ x ∧ x < m) : fitsL (gatO d s L) n m t = true := by
  unfold fitsL gatO
  rw [if_pos rfl, Bool.and_eq_true, decide_eq_true_eq, List.all_eq_true]
  exact ⟨⟨rfl, rfl, rfl, rfl, rfl, rfl, rfl, hl⟩, fun x hx => wthn_iff.2 (by have := hr x hx; omega)⟩
theorem zr_WF {k : KerL} (ho : ∀ o ∈ k.ops, I64 o.src ∧ I64 o.other ∧ I64 o.dst ∧ I64 o.mul) (h1 : I64 k.output) {a b c : Nat} (e1 : k.lo = List.replicate a zeroR) (e2 : k.hi = List.replicate b zeroR) (e3 : k.err = List.replicate c zeroR) : KerL.WF k := by
  have hz : ∀ m, ∀ x ∈ List.replicate m zeroR, x.Short := by
    intro m x hx
    rw [List.eq_of_mem_replicate hx]
    exact ⟨by simp [zeroR], by simp [zeroR]⟩
  exact ⟨ho, h1, e1 ▸ hz a, e2 ▸ hz b, e3 ▸ hz c⟩
theorem gatK_WF {F S : List Int} {n la lb : Nat} : KerL.WF (gatK F S n la lb) := by
  refine zr_WF ?_ (show I64 2 by unfold I64; omega) rfl rfl rfl
  intro o ho
  simp only [gatK, List.mem_cons, List.not_mem_nil, or_false] at ho
  rcases ho with rfl | rfl <;> simp [gatO, I64]
theorem gatL_WF {B : List Int} {n lb : Nat} : KerL.WF (gatL B n lb) := by
  refine zr_WF ?_ (show I64 1 by unfold I64; omega) rfl rfl rfl
  intro o ho
  simp only [gatL, List.mem_cons, List.not_mem_nil, or_false] at ho
  subst ho
  simp [gatO, I64]
theorem gatL_valid {B : List Int} {n lb : Nat} (hl : B.length = lb) (hr : ∀ x ∈ B, -1 ≤ x ∧ x < (n : Int)) (h1 : 1 ≤ n) (h2 : n ≤ 20) (h3 : 1 ≤ lb) (h4 : lb ≤ 20) : validK (gatL B n lb) = true := by
  have hb : boundsL (gatL B n lb) = true := bounds_zero (a := n) (b := n) (c := lb) rfl rfl rfl rfl rfl rfl
  have e1 : wthn (n : Int) 1 262144 = true := wthn_iff.2 ⟨by omega, by omega⟩
  have e2 : wthn (lb : Int) 1 262144 = true := wthn_iff.2 ⟨by omega, by omega⟩
  have ho : opOK (gatL B n lb).sizes (putS (fun _ => false) 0) (gatO 1 0 B) = true := by
    unfold opOK
    simp only [Bool.and_eq_true]
    exact ⟨by simp [gatL, gatO, wthn], rfl, rfl, rfl, gatO_fits (by rw [hl]; rfl) hr⟩
  have hq : opsRun (gatL B n lb).sizes (gatL B n lb).ops = some (putS (putS (fun _ => false) 0) 1) := if_pos ho
  unfold validK
  rw [hq]
  simp only [Bool.and_eq_true, decide_eq_true_eq]
  refine ⟨by simp [gatL, wthn], by simp [gatL], ?_, ?_⟩
  · simp only [gatL, List.all_cons, List.all_nil, Bool.and_true, e1, e2, Bool.and_self]
  · unfold tailOK
    rw [hb]
    rfl
theorem gatK_valid {F S : List Int} {n la lb : Nat} (hl : F.length = la) (hl2 : S.length = lb) (hr : ∀ x ∈ F, -1 ≤ x ∧ x < (n : Int)) (hr2 : ∀ x ∈ S, -1 ≤ x ∧ x < (la : Int)) (h1 : 1 ≤ n) (h2 : n ≤ 20) (h3 : 1 ≤ lb) (h4 : lb ≤ 20) (h5 : 1 ≤ la) (h6 : la ≤ 20) : validK (gatK F S n la lb) = true := by
  have hb : boundsL (gatK F S n la lb) = true := bounds_zero (a := n) (b := n) (c := lb) rfl rfl rfl rfl rfl rfl
  have e1 : wthn (n : Int) 1 262144 = true := wthn_iff.2 ⟨by omega, by omega⟩
  have e2 : wthn (lb : Int) 1 262144 = true := wthn_iff.2 ⟨by omega, by omega⟩
  have e3 : wthn (la : Int) 1 262144 = true := wthn_iff.2 ⟨by omega, by omega⟩
  have ho : opOK (gatK F S n la lb).sizes (putS (fun _ => false) 0) (gatO 1 0 F) = true := by
    unfold opOK
    simp only [Bool.and_eq_true]
    exact ⟨by simp [gatK, gatO, wthn], rfl, rfl, rfl, gatO_fits (by rw [hl]; rfl) hr⟩
  have ho2 : opOK (gatK F S n la lb).sizes (putS (putS (fun _ => false) 0) 1) (gatO 2 1 S) = true := by
    unfold opOK
    simp only [Bool.and_eq_true]
    exact ⟨by simp [gatK, gatO, wthn], rfl, rfl, rfl, gatO_fits (by rw [hl2]; rfl) hr2⟩
  have hq : opsRun (gatK F S n la lb).sizes (gatK F S n la lb).ops = some (putS (putS (putS (fun _ => false) 0) 1) 2) := by
    show opStep _ (opStep _ (some (putS (fun _ => false) 0)) (gatO 1 0 F)) (gatO 2 1 S) = _
    rw [show opStep (gatK F S n la lb).sizes (some (putS (fun _ => false) 0)) (gatO 1 0 F) = some (putS (putS (fun _ => false) 0) 1) from if_pos ho]
    exact if_pos ho2
  unfold validK
  rw [hq]
  simp only [Bool.and_eq_true, decide_eq_true_eq]
  refine ⟨by simp [gatK, wthn], by simp [gatK], ?_, ?_⟩
  · simp only [gatK, List.all_cons, List.all_nil, Bool.and_true, e1, e2, e3, Bool.and_self]
  · unfold tailOK
    rw [hb]
    rfl
def gat (L S : List Int) (n : Nat) : List Int := List.zipWith (fun x d => if 0 ≤ x then S.getD x.toNat 0 else d) L (List.replicate n 0)
theorem gatL_out {B I : List Int} {n lb : Nat} : outL (gatL B n lb) I = gat B I lb := by
  show ([List.replicate ((n : Int)).toNat (0 : Int), List.replicate ((lb : Int)).toNat 0].set 0 I |>.set 1 (doL (gatO 1 0 B) (List.replicate ((lb : Int)).toNat 0) I I)).getD 1 [] = _
  simp [doL, gatO, gat]
theorem gatK_out {F S I : List Int} {n la lb : Nat} : outL (gatK F S n la lb) I = gat S (gat F I la) lb := by
  show (stepL (gatO 2 1 S) (stepL (gatO 1 0 F) [I, List.replicate ((la : Int)).toNat 0, List.replicate ((lb : Int)).toNat 0])).getD 2 [] = _
  simp [stepL, doL, gatO, gat]
theorem gat_gat {F S I : List Int} {la lb : Nat} (hl : F.length = la) (hl2 : S.length = lb) (hr : ∀ x ∈ S, -1 ≤ x ∧ x < (la : Int)) : gat S (gat F I la) lb = gat (S.map fun k => if 0 ≤ k then F.getD k.toNat 0 else k) I lb := by
  apply List.ext_getElem?
  intro i
  unfold gat
  rw [List.getElem?_zipWith, List.getElem?_zipWith, List.getElem?_map, List.getElem?_replicate]
  cases hs : S[i]? with
  | none => rfl
  | some s =>
    have hi := (List.getElem?_eq_some_iff.1 hs).1
    rw [if_pos (by omega)]
    simp only [Option.map_some]
    congr 1
    have h1 := hr s (List.mem_of_getElem? hs)
    by_cases h0 : 0 ≤ s
    · rw [if_pos h0, if_pos h0]
      have hk : s.toNat < F.length := by omega
      rw [List.getD_eq_getElem?_getD, List.getElem?_zipWith, getD_at hk, List.getElem?_replicate, if_pos (by omega)]
      rfl
    · rw [if_neg h0, if_neg h0, if_neg h0]
def GatCut (w1 : World) (af sa : Option Addr) (F S : List Int) (n la lb : Nat) (s : Value) (wx : World) : Prop := ∃ g, s = .pointer (some ⟨g, 0, none⟩) ∧ w1.heap.size ≤ g ∧ Below w1.heap.size w1 wx ∧ (Ints w1 Any af F → Ints w1 Any sa S → KBox wx g (gatK F S n la lb))

theorem hp0 (w : World) (o : Obj) : (w.alloc o).heap[w.heap.size]? = some o := by
  show (w.heap.push o)[w.heap.size]? = _
  rw [Array.getElem?_push, if_pos rfl]
theorem rats_of {B n : Nat} {v : Value} {w : World} (h : RowT B 78 (madeCells #[.bool false, .slice none 0 0, .slice none 0 0] (n * 3)) n v w) (hn : n ≤ 9223372036854775807) : ∃ a, v = .slice a n n ∧ RatsAt w a (List.replicate n zeroR) := h.row.rats hn
set_option maxRecDepth 10000 in
theorem gatCut_mk {w1 W : World} {af sa : Option Addr} {F S : List Int} {cf sc n la lb gp b5 b10 b12 b14 b17 : Nat} {cs : Array Value} (hcs : cs.size = 8) (hn : n ≤ 1000000) (hla : la ≤ 1000000) (hlb : lb ≤ 1000000) (hlf : F.length = la) (hls : S.length = lb) (hcf : la ≤ cf) (hsc : lb ≤ sc) (hR : From w1.heap.size w1 W) (hgp : w1.heap.size ≤ gp) (hblk : W.heap[gp]? = some (.cells cs 45 (0, 0)))
    (k5 : RowT w1.heap.size 3 #[.int .i64 (n : Int), .int .i64 (la : Int), .int .i64 (lb : Int)] 3 (.slice (some ⟨b5, 0, none⟩) 3 3) W)
    (k10 : RowT w1.heap.size 50 #[.int .i64 1, .int .i64 1, .int .i64 0, .int .i64 0, .int .i64 0, .int .i64 0, .slice af la cf, .slice none 0 0, .slice none 0 0, .int .i64 0, .int .i64 0, .int .i64 1, .int .i64 2, .int .i64 1, .int .i64 0, .int .i64 0, .int .i64 0, .slice sa lb sc, .slice none 0 0, .slice none 0 0, .int .i64 0, .int .i64 0] 2 (.slice (some ⟨b10, 0, none⟩) 2 2) W)
    (k12 : RowT w1.heap.size 78 (madeCells #[.bool false, .slice none 0 0, .slice none 0 0] (n * 3)) n (.slice (some ⟨b12, 0, none⟩) n n) W)
    (k14 : RowT w1.heap.size 78 (madeCells #[.bool false, .slice none 0 0, .slice none 0 0] (n * 3)) n (.slice (some ⟨b14, 0, none⟩) n n) W)
    (k17 : RowT w1.heap.size 78 (madeCells #[.bool false, .slice none 0 0, .slice none 0 0] (lb * 3)) lb (.slice (some ⟨b17, 0, none⟩) lb lb) W) :
    Hid (GatCut w1 af sa F S n la lb (.pointer (some ⟨gp, 0, none⟩)) (setRow gp W 0 [.slice (some ⟨b5, 0, none⟩) 3 3, .slice (some ⟨b10, 0, none⟩) 2 2, .int .i64 2, .int .i64 0, .int .i64 0, .slice (some ⟨b12, 0, none⟩) n n, .slice (some ⟨b14, 0, none⟩) n n, .slice (some ⟨b17, 0, none⟩) lb lb])) := by
  have hbe : Below w1.heap.size w1 (setRow gp W 0 [.slice (some ⟨b5, 0, none⟩) 3 3, .slice (some ⟨b10, 0, none⟩) 2 2, .int .i64 2, .int .i64 0, .int .i64 0, .slice (some ⟨b12, 0, none⟩) n n, .slice (some ⟨b14, 0, none⟩) n n, .slice (some ⟨b17, 0, none⟩) lb lb]) := setRow_below hgp _ _ _ hR.be
  refine ⟨gp, rfl, hgp, hbe, fun hF hS => ?_⟩
  have hF' := hF.below hbe
  have hS' := hS.below hbe
  have h5 := k5.setRow hblk (by decide) [.slice (some ⟨b5, 0, none⟩) 3 3, .slice (some ⟨b10, 0, none⟩) 2 2, .int .i64 2, .int .i64 0, .int .i64 0, .slice (some ⟨b12, 0, none⟩) n n, .slice (some ⟨b14, 0, none⟩) n n, .slice (some ⟨b17, 0, none⟩) lb lb]
  have h10 := k10.setRow hblk (by decide) [.slice (some ⟨b5, 0, none⟩) 3 3, .slice (some ⟨b10, 0, none⟩) 2 2, .int .i64 2, .int .i64 0, .int .i64 0, .slice (some ⟨b12, 0, none⟩) n n, .slice (some ⟨b14, 0, none⟩) n n, .slice (some ⟨b17, 0, none⟩) lb lb]
  have h12 := k12.setRow hblk (by decide) [.slice (some ⟨b5, 0, none⟩) 3 3, .slice (some ⟨b10, 0, none⟩) 2 2, .int .i64 2, .int .i64 0, .int .i64 0, .slice (some ⟨b12, 0, none⟩) n n, .slice (some ⟨b14, 0, none⟩) n n, .slice (some ⟨b17, 0, none⟩) lb lb]
  have h14 := k14.setRow hblk (by decide) [.slice (some ⟨b5, 0, none⟩) 3 3, .slice (some ⟨b10, 0, none⟩) 2 2, .int .i64 2, .int .i64 0, .int .i64 0, .slice (some ⟨b12, 0, none⟩) n n, .slice (some ⟨b14, 0, none⟩) n n, .slice (some ⟨b17, 0, none⟩) lb lb]
  have h17 := k17.setRow hblk (by decide) [.slice (some ⟨b5, 0, none⟩) 3 3, .slice (some ⟨b10, 0, none⟩) 2 2, .int .i64 2, .int .i64 0, .int .i64 0, .slice (some ⟨b12, 0, none⟩) n n, .slice (some ⟨b14, 0, none⟩) n n, .slice (some ⟨b17, 0, none⟩) lb lb]
  have hbk := setRow_all (l := [.slice (some ⟨b5, 0, none⟩) 3 3, .slice (some ⟨b10, 0, none⟩) 2 2, .int .i64 2, .int .i64 0, .int .i64 0, .slice (some ⟨b12, 0, none⟩) n n, .slice (some ⟨b14, 0, none⟩) n n, .slice (some ⟨b17, 0, none⟩) lb lb]) hblk (by rw [hcs]; rfl)
  clear hbe k5 k10 k12 k14 k17 hblk hR hF hS
  generalize setRow gp W 0 _ = W' at *
  obtain ⟨a5, e5, i5⟩ := (h5.row).ints (l := [(n : Int), (la : Int), (lb : Int)]) rfl (by simp [I64]; omega) (by simp)
  obtain ⟨a12, e12, i12⟩ := rats_of h12 (by omega)
  obtain ⟨a14, e14, i14⟩ := rats_of h14 (by omega)
  obtain ⟨a17, e17, i17⟩ := rats_of h17 (by omega)
  obtain ⟨g10, _, e10, hg10⟩ := h10
  cases e5; cases e10; cases e12; cases e14; cases e17
  have ho : OpsAt W' (some ⟨b10, 0, none⟩) [gatO 1 0 F, gatO 2 1 S] := by
    subst hlf hls
    exact OpsAt.two (o := gatO 1 0 F) (p := gatO 2 1 S) (a1 := af) (c1 := cf) (a2 := none) (c2 := 0) (a3 := none) (c3 := 0) (a4 := sa) (c4 := sc) (a5 := none) (c5 := 0) (a6 := none) (c6 := 0) hg10
      ⟨af, none, none, cf, 0, 0, rfl, hF', Ints.nil _ _ _, Ints.nil _ _ _, hcf, Nat.le_refl _, Nat.le_refl _⟩ ⟨sa, none, none, sc, 0, 0, rfl, hS', Ints.nil _ _ _, Ints.nil _ _ _, hsc, Nat.le_refl _, Nat.le_refl _⟩
  exact ⟨_, _, _, _, _, _, _, _, Box8.of_block hbk, ⟨some ⟨b5, 0, none⟩, some ⟨b10, 0, none⟩, some ⟨b12, 0, none⟩, some ⟨b14, 0, none⟩, some ⟨b17, 0, none⟩, 3, 2, n, n, lb, by simp [gatK], i5, ho, i12, i14, i17⟩⟩

theorem alloc_other {w : World} {g : Nat} {o o' : Obj} (h : w.heap[g]? = some o) : (w.alloc o').heap[g]? = some o :=
  (Below.heap_alloc w o' g (Array.getElem?_eq_some_iff.1 h).1).trans h
/-- The second kernel: three fields of a copy of the first are laid anew. -/
theorem gatL_mk {wx : World} {ba : Option Addr} {Bt F S : List Int} {bc n la lb : Nat} {q0 q1 q2 q3 q4 q5 q6 q7 : Value} (hn : n ≤ 1000000) (hlb : lb ≤ 1000000) (hbl : Bt.length = lb) (hbc : lb ≤ bc)
    (hK : KerV wx (.agg #[q0, q1, q2, q3, q4, q5, q6, q7]) (gatK F S n la lb)) (hB : Ints wx Any ba Bt) :
    KBox (((wx.alloc (.cells #[.slice (some ⟨wx.heap.size + 1, 0, none⟩) 2 2, .slice (some ⟨wx.heap.size + 1 + 1, 0, none⟩) 1 1, .int .i64 1, q3, q4, q5, q6, q7] 45)).alloc (.cells #[.int .i64 (n : Int), .int .i64 (lb : Int)] 3)).alloc (.cells #[.int .i64 1, .int .i64 1, .int .i64 0, .int .i64 0, .int .i64 0, .int .i64 0, .slice ba lb bc, .slice none 0 0, .slice none 0 0, .int .i64 0, .int .i64 0] 50)) wx.heap.size (gatL Bt n lb) ∧ Below wx.heap.size wx (((wx.alloc (.cells #[.slice (some ⟨wx.heap.size + 1, 0, none⟩) 2 2, .slice (some ⟨wx.heap.size + 1 + 1, 0, none⟩) 1 1, .int .i64 1, q3, q4, q5, q6, q7] 45)).alloc (.cells #[.int .i64 (n : Int), .int .i64 (lb : Int)] 3)).alloc (.cells #[.int .i64 1, .int .i64 1, .int .i64 0, .int .i64 0, .int .i64 0, .int .i64 0, .slice ba lb bc, .slice none 0 0, .slice none 0 0, .int .i64 0, .int .i64 0] 50)) := by
  obtain ⟨a1, a2, a3, a4, a5, c1, c2, c3, c4, c5, e, _, _, i3, i4, i5⟩ := hK.ex
  have hbW : Below wx.heap.size wx (((wx.alloc (.cells #[.slice (some ⟨wx.heap.size + 1, 0, none⟩) 2 2, .slice (some ⟨wx.heap.size + 1 + 1, 0, none⟩) 1 1, .int .i64 1, q3, q4, q5, q6, q7] 45)).alloc (.cells #[.int .i64 (n : Int), .int .i64 (lb : Int)] 3)).alloc (.cells #[.int .i64 1, .int .i64 1, .int .i64 0, .int .i64 0, .int .i64 0, .int .i64 0, .slice ba lb bc, .slice none 0 0, .slice none 0 0, .int .i64 0, .int .i64 0] 50)) := ((((Below.refl _ wx).alloc (Nat.le_refl _) _).alloc (by simp) _).alloc (by simp; omega) _)
  have s0 : (((wx.alloc (.cells #[.slice (some ⟨wx.heap.size + 1, 0, none⟩) 2 2, .slice (some ⟨wx.heap.size + 1 + 1, 0, none⟩) 1 1, .int .i64 1, q3, q4, q5, q6, q7] 45)).alloc (.cells #[.int .i64 (n : Int), .int .i64 (lb : Int)] 3)).alloc (.cells #[.int .i64 1, .int .i64 1, .int .i64 0, .int .i64 0, .int .i64 0, .int .i64 0, .slice ba lb bc, .slice none 0 0, .slice none 0 0, .int .i64 0, .int .i64 0] 50)).heap[wx.heap.size]? = some (.cells #[.slice (some ⟨wx.heap.size + 1, 0, none⟩) 2 2, .slice (some ⟨wx.heap.size + 1 + 1, 0, none⟩) 1 1, .int .i64 1, q3, q4, q5, q6, q7] 45 (0, 0)) := alloc_other (alloc_other (hp0 wx _))
  have s1 : (((wx.alloc (.cells #[.slice (some ⟨wx.heap.size + 1, 0, none⟩) 2 2, .slice (some ⟨wx.heap.size + 1 + 1, 0, none⟩) 1 1, .int .i64 1, q3, q4, q5, q6, q7] 45)).alloc (.cells #[.int .i64 (n : Int), .int .i64 (lb : Int)] 3)).alloc (.cells #[.int .i64 1, .int .i64 1, .int .i64 0, .int .i64 0, .int .i64 0, .int .i64 0, .slice ba lb bc, .slice none 0 0, .slice none 0 0, .int .i64 0, .int .i64 0] 50)).heap[wx.heap.size + 1]? = some (.cells #[.int .i64 (n : Int), .int .i64 (lb : Int)] 3 (0, 0)) := by
    have := hp0 (wx.alloc (.cells #[.slice (some ⟨wx.heap.size + 1, 0, none⟩) 2 2, .slice (some ⟨wx.heap.size + 1 + 1, 0, none⟩) 1 1, .int .i64 1, q3, q4, q5, q6, q7] 45)) (.cells #[.int .i64 (n : Int), .int .i64 (lb : Int)] 3)
    rw [show (wx.alloc (.cells #[.slice (some ⟨wx.heap.size + 1, 0, none⟩) 2 2, .slice (some ⟨wx.heap.size + 1 + 1, 0, none⟩) 1 1, .int .i64 1, q3, q4, q5, q6, q7] 45)).heap.size = wx.heap.size + 1 by simp] at this
    exact alloc_other this
  have s2 : (((wx.alloc (.cells #[.slice (some ⟨wx.heap.size + 1, 0, none⟩) 2 2, .slice (some ⟨wx.heap.size + 1 + 1, 0, none⟩) 1 1, .int .i64 1, q3, q4, q5, q6, q7] 45)).alloc (.cells #[.int .i64 (n : Int), .int .i64 (lb : Int)] 3)).alloc (.cells #[.int .i64 1, .int .i64 1, .int .i64 0, .int .i64 0, .int .i64 0, .int .i64 0, .slice ba lb bc, .slice none 0 0, .slice none 0 0, .int .i64 0, .int .i64 0] 50)).heap[wx.heap.size + 1 + 1]? = some (.cells #[.int .i64 1, .int .i64 1, .int .i64 0, .int .i64 0, .int .i64 0, .int .i64 0, .slice ba lb bc, .slice none 0 0, .slice none 0 0, .int .i64 0, .int .i64 0] 50 (0, 0)) := by
    have := hp0 ((wx.alloc (.cells #[.slice (some ⟨wx.heap.size + 1, 0, none⟩) 2 2, .slice (some ⟨wx.heap.size + 1 + 1, 0, none⟩) 1 1, .int .i64 1, q3, q4, q5, q6, q7] 45)).alloc (.cells #[.int .i64 (n : Int), .int .i64 (lb : Int)] 3)) (.cells #[.int .i64 1, .int .i64 1, .int .i64 0, .int .i64 0, .int .i64 0, .int .i64 0, .slice ba lb bc, .slice none 0 0, .slice none 0 0, .int .i64 0, .int .i64 0] 50)
    rw [show ((wx.alloc (.cells #[.slice (some ⟨wx.heap.size + 1, 0, none⟩) 2 2, .slice (some ⟨wx.heap.size + 1 + 1, 0, none⟩) 1 1, .int .i64 1, q3, q4, q5, q6, q7] 45)).alloc (.cells #[.int .i64 (n : Int), .int .i64 (lb : Int)] 3)).heap.size = wx.heap.size + 1 + 1 by simp] at this
    exact this
  generalize (((wx.alloc (.cells #[.slice (some ⟨wx.heap.size + 1, 0, none⟩) 2 2, .slice (some ⟨wx.heap.size + 1 + 1, 0, none⟩) 1 1, .int .i64 1, q3, q4, q5, q6, q7] 45)).alloc (.cells #[.int .i64 (n : Int), .int .i64 (lb : Int)] 3)).alloc (.cells #[.int .i64 1, .int .i64 1, .int .i64 0, .int .i64 0, .int .i64 0, .int .i64 0, .slice ba lb bc, .slice none 0 0, .slice none 0 0, .int .i64 0, .int .i64 0] 50)) = W' at *
  refine ⟨?_, hbW⟩
  cases e
  have ho : OpsAt W' (some ⟨wx.heap.size + 1 + 1, 0, none⟩) [gatO 1 0 Bt] := by
    subst hbl
    exact OpsAt.one (o := gatO 1 0 Bt) (a1 := ba) (c1 := bc) (a2 := none) (c2 := 0) (a3 := none) (c3 := 0) s2 ⟨ba, none, none, bc, 0, 0, rfl, hB.below hbW, Ints.nil _ _ _, Ints.nil _ _ _, hbc, Nat.le_refl _, Nat.le_refl _⟩
  have hi : Ints W' Any (some ⟨wx.heap.size + 1, 0, none⟩) [(n : Int), (lb : Int)] := IBlk.ints ⟨_, s1⟩ trivial (by simp [I64]; omega) (by simp)
  exact ⟨_, _, _, _, _, _, _, _, Box8.of_block s0, ⟨some ⟨wx.heap.size + 1, 0, none⟩, some ⟨wx.heap.size + 1 + 1, 0, none⟩, a3, a4, a5, 2, 1, c3, c4, c5, rfl, hi, ho, i3.below hbW, i4.below hbW, i5.below hbW⟩⟩

set_option maxRecDepth 100000 in
set_option maxHeartbeats 3200000 in
theorem lawGathers {w : World} {ai aa ab : Option Addr} {I A Bs : List Int} (ci ca cb : Nat) (hI : Ints w Any ai I) (hA : U8s w aa A) (hB : U8s w ab Bs) :
    Calls Try.prog 9 #[.slice ai I.length ci, .slice aa A.length ca, .slice ab Bs.length cb] w fun e w' => e = .returned (.bool true) ∧ Below w.heap.size w w' := by
  have lli := hI.len
  have lla := hA.len
  have llb := hB.len
  have HI := Lib.hid hI
  have HA := Lib.hid hA
  have HB := Lib.hid hB
  clear hI hA hB
  go_enter Try.func9, Try.ntmps9
  go_wp2_with fail
  refine (kAwake w).mono ?_
  rintro e w1 ⟨rfl, hb1⟩
  have HB1 := Lib.hid hb1
  have HI1 := Lib.hid (HI.out.below hb1)
  have HA1 := Lib.hid (HA.out.below hb1)
  have HBs1 := Lib.hid (HB.out.below hb1)
  have hbs := hb1.size
  clear hb1 HI HA HB
  by_cases c1 : I.length < 1
  · have d1 : decide ((I.length : Int) < 1) = true := decide_eq_true (by omega)
    go_wp2
    go_ret
    exact ⟨rfl, HB1.out⟩
  have d1 : decide ((I.length : Int) < 1) = false := decide_eq_false (by omega)
  by_cases c2 : 20 < I.length
  · have d2 : decide (20 < (I.length : Int)) = true := decide_eq_true (by omega)
    go_wp2
    go_ret
    exact ⟨rfl, HB1.out⟩
  have d2 : decide (20 < (I.length : Int)) = false := decide_eq_false (by omega)
  by_cases c3 : A.length < 1
  · have d3 : decide ((A.length : Int) < 1) = true := decide_eq_true (by omega)
    go_wp2
    go_ret
    exact ⟨rfl, HB1.out⟩
  have d3 : decide ((A.length : Int) < 1) = false := decide_eq_false (by omega)
  by_cases c4 : 20 < A.length
  · have d4 : decide (20 < (A.length : Int)) = true := decide_eq_true (by omega)
    go_wp2
    go_ret
    exact ⟨rfl, HB1.out⟩
  have d4 : decide (20 < (A.length : Int)) = false := decide_eq_false (by omega)
  by_cases c5 : Bs.length < 1
  · have d5 : decide ((Bs.length : Int) < 1) = true := decide_eq_true (by omega)
    go_wp2
    go_ret
    exact ⟨rfl, HB1.out⟩
  have d5 : decide ((Bs.length : Int) < 1) = false := decide_eq_false (by omega)
  by_cases c6 : 20 < Bs.length
  · have d6 : decide (20 < (Bs.length : Int)) = true := decide_eq_true (by omega)
    go_wp2
    go_ret
    exact ⟨rfl, HB1.out⟩
  have d6 : decide (20 < (Bs.length : Int)) = false := decide_eq_false (by omega)
  obtain ⟨F, hF⟩ : ∃ F, F = firstL A I.length := ⟨_, rfl⟩
  have HF := Lib.hid hF
  have HFl : Hid (F.length = A.length) := by unfold Hid; rw [hF]; exact firstL_len _ _
  have HFr : Hid (∀ x ∈ F, -1 ≤ x ∧ x < (I.length : Int)) := by unfold Hid; rw [hF]; exact firstL_range
  clear hF
  go_wp2
  go_loopw [8, 11] (fun f i wr => ∃ k : Nat, k ≤ A.length ∧ i = .int .i64 (k : Int) ∧ Hid (wr.ownsRow w1.heap.size 3 1 f k ((F.take k).map (Value.int .i64))) ∧ Hid (Below w1.heap.size w1 wr)) (fun _ i _ => A.length - (intOf i).toNat)
  case atStart => exact ⟨0, Nat.zero_le _, rfl, World.ownsRow_nil _ _ _ _, Below.refl _ _⟩
  case round =>
    obtain ⟨k, hk, rfl, hO, hBw⟩ := hrel
    by_cases hlt : k < A.length
    · obtain ⟨b, off, rfl, hb, hc, hx0, hx1⟩ := HA1.out.cells hlt
      have cX := (hBw.out.cell (p := ⟨b, off + k, none⟩) hb).trans hc
      have HTk : Hid ((F.take (k + 1)).map (Value.int .i64) = (F.take k).map (Value.int .i64) ++ [.int .i64 (A.getD k 0 % ((I.length : Int) + 1) - 1)]) := by
        unfold Hid
        rw [HF.out, take_succ_at (firstL_at hlt), List.map_append]
        rfl
      generalize A.getD k 0 = x at *
      clear hc
      have e1 := Int.emod_nonneg x (b := (I.length : Int) + 1) (by omega)
      have e2 := Int.emod_lt_of_pos x (b := (I.length : Int) + 1) (by omega)
      go_wp2_with (at_builtin; refine wpList_app1 rfl (.tmp 56) (.tmp 66) 22 rfl w1.heap.size 3 (.int .i64 0) 8 Try.underlying22 Try.info3 rfl _ k _ rfl hO.out _ rfl rfl (by omega) (by unfold maxLen; omega) hBw.out.size ?_; intro v' w' hown hg hn)
      go_roundw
      case rel =>
        refine ⟨k + 1, hlt, by go_num, ?_, hBw.out.grown hg hBw.out.size (fun k hk => (hO.out.lt k hk).1)⟩
        unfold Hid
        rw [HTk.out]
        exact hown
      case measure => simp [intOf]; omega
    · obtain rfl : k = A.length := by omega
      have hO2 := hO.out
      have hfl := HFl.out
      rw [List.take_of_length_le (by omega), ← hfl] at hO2
      have hfw : ∀ x ∈ F, I64 x := fun x hx => by have := HFr.out x hx; unfold I64; omega
      obtain ⟨af, cf, rfl, hIf⟩ := Ints.own hO2 hfw (by omega)
      have hcf := Ints.own_cap hO2 rfl
      rw [hfl] at hcf ⊢
      have HFi := Lib.hid (hIf.mono (F' := Any) (fun _ _ _ => trivial))
      have HBr := Lib.hid (HB1.out.trans (hBw.out.mono hbs))
      have HBsr := Lib.hid (HBs1.out.below hBw.out)
      have HIr := Lib.hid (HI1.out.below hBw.out)
      have hws := hBw.out.size
      clear hO hBw hO2 hfw hIf HA1 HI1 HBs1 HB1
      obtain ⟨Sd, hSd⟩ : ∃ S, S = firstL Bs A.length := ⟨_, rfl⟩
      have HSd := Lib.hid hSd
      have HSl : Hid (Sd.length = Bs.length) := by unfold Hid; rw [hSd]; exact firstL_len _ _
      have HSr : Hid (∀ x ∈ Sd, -1 ≤ x ∧ x < (A.length : Int)) := by unfold Hid; rw [hSd]; exact firstL_range
      obtain ⟨Bt, hBt⟩ : ∃ B, B = Sd.map (fun k => if 0 ≤ k then F.getD k.toNat 0 else k) := ⟨_, rfl⟩
      have HBt := Lib.hid hBt
      have HBl : Hid (Bt.length = Bs.length) := by unfold Hid; rw [hBt, List.length_map, HSl.out]
      clear hSd hBt
      obtain ⟨w2, hw2⟩ : ∃ w2 : World, w2 = wr := ⟨_, rfl⟩
      subst hw2
      go_wp2
      go_loopw [9, 10, 12] (fun s b i wr => ∃ k : Nat, k ≤ Bs.length ∧ i = .int .i64 (k : Int) ∧ Hid (wr.ownsRow w2.heap.size 3 1 s k ((Sd.take k).map (Value.int .i64))) ∧ Hid (wr.ownsRow w2.heap.size 3 1 b k ((Bt.take k).map (Value.int .i64))) ∧ Hid (Apart s b) ∧ Hid (Below w2.heap.size w2 wr)) (fun _ _ i _ => Bs.length - (intOf i).toNat)
      case atStart => exact ⟨0, Nat.zero_le _, rfl, World.ownsRow_nil _ _ _ _, World.ownsRow_nil _ _ _ _, (fun (p : Nat) (h : (Value.slice none 0 0).ownBlock = some p) => by cases h), Below.refl _ _⟩
      case round =>
        obtain ⟨k, hk, rfl, hO, hP, hD, hBw⟩ := hrel
        by_cases hlt : k < Bs.length
        · obtain ⟨b, off, rfl, hb, hc, hx0, hx1⟩ := HBsr.out.cells hlt
          have cX := (hBw.out.cell (p := ⟨b, off + k, none⟩) hb).trans hc
          have hSk : Sd[k]? = some (Bs.getD k 0 % ((A.length : Int) + 1) - 1) := by rw [HSd.out]; exact firstL_at hlt
          have HTk : Hid ((Sd.take (k + 1)).map (Value.int .i64) = (Sd.take k).map (Value.int .i64) ++ [.int .i64 (Bs.getD k 0 % ((A.length : Int) + 1) - 1)]) := by
            unfold Hid
            rw [take_succ_at hSk, List.map_append]
            rfl
          have HTb : Hid (∀ y, (if 0 ≤ Bs.getD k 0 % ((A.length : Int) + 1) - 1 then F.getD (Bs.getD k 0 % ((A.length : Int) + 1) - 1).toNat 0 else Bs.getD k 0 % ((A.length : Int) + 1) - 1) = y → (Bt.take (k + 1)).map (Value.int .i64) = (Bt.take k).map (Value.int .i64) ++ [.int .i64 y]) := by
            intro y hy
            have hb : Bt[k]? = some y := by rw [HBt.out, List.getElem?_map, hSk, Option.map_some, hy]
            rw [take_succ_at hb, List.map_append]
            rfl
          generalize Bs.getD k 0 = x at *
          clear hc hSk
          have e1 := Int.emod_nonneg x (b := (A.length : Int) + 1) (by omega)
          have e2 := Int.emod_lt_of_pos x (b := (A.length : Int) + 1) (by omega)
          obtain ⟨m, hm⟩ : ∃ m : Nat, x % ((A.length : Int) + 1) = (m : Int) := ⟨(x % ((A.length : Int) + 1)).toNat, by omega⟩
          rw [hm] at HTk HTb
          have hml : m < A.length + 1 := by omega
          clear e1 e2
          go_upto_region 16 with (at_builtin; refine wpList_app1 rfl (.tmp 84) (.tmp 86) 22 rfl w2.heap.size 3 (.int .i64 0) 8 Try.underlying22 Try.info3 rfl _ k _ rfl hO.out _ rfl rfl (by omega) (by unfold maxLen; omega) hBw.out.size ?_; intro v' w' hown hg hn)
          have hB3 := hBw.out.grown hg hBw.out.size (fun k hk => (hO.out.lt k hk).1)
          have HP3 := Lib.hid (hD.out.kept hP.out hg)
          have HD3 := Lib.hid (hD.out.next hP.out hn)
          have HO3 : Hid (w'.ownsRow w2.heap.size 3 1 v' (k + 1) ((Sd.take (k + 1)).map (Value.int .i64))) := by unfold Hid; rw [HTk.out]; exact hown
          have HB3 := Lib.hid hB3
          have hs3 := hB3.size
          clear hown hg hn hO hP hD hBw hm cX
          rcases Nat.eq_zero_or_pos m with h0 | h0
          · subst h0
            have HTy := Lib.hid (HTb.out (-1) (by simp))
            clear HTb
            go_wp2_with (at_builtin; refine wpList_app1 rfl (.tmp 94) (.tmp 96) 22 rfl w2.heap.size 3 (.int .i64 0) 8 Try.underlying22 Try.info3 rfl _ k _ rfl HP3.out _ rfl rfl (by omega) (by unfold maxLen; omega) hs3 ?_; intro v2' w3 hown hg hn)
            go_roundw
            case rel =>
              refine ⟨k + 1, hlt, by go_num, HD3.out.symm.kept HO3.out hg, ?_, (HD3.out.symm.next HO3.out hn).symm, HB3.out.grown hg hs3 (fun k hk => (HP3.out.lt k hk).1)⟩
              unfold Hid
              rw [HTy.out]
              exact hown
            case measure => simp [intOf]; omega
          · obtain ⟨m, rfl⟩ : ∃ m', m = m' + 1 := ⟨m - 1, by omega⟩
            have hmF : m < F.length := by rw [hfl]; omega
            obtain ⟨bf, of, rfl, _, hbf, hcf2⟩ := HFi.out.cells hmF
            have cF := (HB3.out.cell (p := ⟨bf, of + m, none⟩) hbf).trans (hcf2 m hmF)
            have HTy := Lib.hid (HTb.out (F.getD m 0) (by rw [if_pos (by omega)]; congr 1; omega))
            have hyr := HFr.out (F.getD m 0) (List.mem_of_getElem? (getD_at hmF))
            clear HTb hcf2
            generalize F.getD m 0 = y at *
            go_wp2_with (at_builtin; refine wpList_app1 rfl (.tmp 94) (.tmp 96) 22 rfl w2.heap.size 3 (.int .i64 0) 8 Try.underlying22 Try.info3 rfl _ k _ rfl HP3.out _ rfl rfl (by omega) (by unfold maxLen; omega) hs3 ?_; intro v2' w3 hown hg hn)
            go_roundw
            case rel =>
              refine ⟨k + 1, hlt, by go_num, HD3.out.symm.kept HO3.out hg, ?_, (HD3.out.symm.next HO3.out hn).symm, HB3.out.grown hg hs3 (fun k hk => (HP3.out.lt k hk).1)⟩
              unfold Hid
              rw [HTy.out]
              exact hown
            case measure => simp [intOf]; omega
        · obtain rfl : k = Bs.length := by omega
          have hO2 := hO.out
          have hP2 := hP.out
          have hsl := HSl.out
          have hbl := HBl.out
          have hsw : ∀ x ∈ Sd, I64 x := fun x hx => by have := HSr.out x hx; unfold I64; omega
          have hbr : ∀ x ∈ Bt, -1 ≤ x ∧ x < (I.length : Int) := by
            intro x hx
            rw [HBt.out] at hx
            obtain ⟨y, hy, rfl⟩ := List.mem_map.1 hx
            have := HSr.out y hy
            split
            · exact HFr.out _ (List.mem_of_getElem? (getD_at (by rw [hfl]; omega)))
            · omega
          have hbw' : ∀ x ∈ Bt, I64 x := fun x hx => by have := hbr x hx; unfold I64; omega
          rw [List.take_of_length_le (by omega), ← hsl] at hO2
          rw [List.take_of_length_le (by omega), ← hbl] at hP2
          obtain ⟨sa, sc, rfl, hIs⟩ := Ints.own hO2 hsw (by omega)
          obtain ⟨ba, bc, rfl, hIb⟩ := Ints.own hP2 hbw' (by omega)
          have hsc := Ints.own_cap hO2 rfl
          have hbcc := Ints.own_cap hP2 rfl
          rw [hsl] at hsc ⊢
          rw [hbl] at hbcc ⊢
          have HS3 := Lib.hid (hIs.mono (F' := Any) (fun _ _ _ => trivial))
          have HBt3 := Lib.hid (hIb.mono (F' := Any) (fun _ _ _ => trivial))
          have HF3 := Lib.hid (HFi.out.below hBw.out)
          have HI3 := Lib.hid (HIr.out.below hBw.out)
          have HB3 := Lib.hid (HBr.out.trans (hBw.out.mono (Nat.le_trans hbs hws)))
          have hs3 := Nat.le_trans (Nat.le_trans hbs hws) hBw.out.size
          have HBr2 := Lib.hid hbr
          clear hO hP hD hBw hO2 hP2 hsw hbw' hIs hIb HFi HIr HBr HBsr hbr
          obtain ⟨w3, hw3⟩ : ∃ w3 : World, w3 = wr := ⟨_, rfl⟩
          subst hw3
          go_upto_region 19 with fail
          go_cut [14] (fun s14 wx => Hid (GatCut w3 af sa F Sd I.length A.length Bs.length s14 wx))
          case first =>
            generalize hnn : I.length = n at *
            generalize haa : A.length = la at *
            generalize hbb : Bs.length = lb at *
            clear hnn haa hbb
            refine wp_region_slots_lit (by kernel_rfl) (by kernel_rfl) (by kernel_rfl) (by kernel_rfl) (by kernel_rfl) (From w3.heap.size w3) (fun w w' => Below w.heap.size w w') (gatG aa ab af sa n la lb ca cb cf sc w3.heap.size) (fun i v w w' h hb => gatG_below h hb) (From.start (by first | exact Nat.le_refl _ | (simp; done) | omega)) ?_ ?_
            · intro ops
              simp only [List.dropLast, Shows]
              refine ⟨?_, ?_, ?_, ?_, ?_, ?_, ?_, ?_, ?_, ?_, ?_, ?_, ?_, ?_, ?_, ?_, ?_, ?_, ?_, ?_, trivial⟩
              · intro g W hR hL
                have hB := hR.base
                simp only [Laid, Region.binds, forall_const, Bool.false_eq_true, false_implies, gatG] at hL
                simp [fillFrom, Act.put]
                clear hL
                have HR := Lib.hid hR
                clear hR
                go_wp2
                exact ⟨_, rfl, HR.out, Below.refl _ _, rfl⟩
              · intro g W hR hL
                have hB := hR.base
                simp only [Laid, Region.binds, forall_const, Bool.false_eq_true, false_implies, gatG] at hL
                simp [fillFrom, Act.put]
                clear hL
                have HR := Lib.hid hR
                clear hR
                go_wp2
                exact ⟨_, rfl, HR.out, Below.refl _ _, rfl⟩
              · intro g W hR hL
                have hB := hR.base
                simp only [Laid, Region.binds, forall_const, Bool.false_eq_true, false_implies, gatG] at hL
                simp [fillFrom, Act.put]
                generalize g 1 = y1 at hL ⊢
                obtain ⟨rfl, _⟩ := hL
                have HR := Lib.hid hR
                clear hR
                go_wp2
                exact ⟨_, rfl, HR.out, Below.refl _ _, rfl⟩
              · intro g W hR hL
                have hB := hR.base
                simp only [Laid, Region.binds, forall_const, Bool.false_eq_true, false_implies, gatG] at hL
                simp [fillFrom, Act.put]
                clear hL
                have HR := Lib.hid hR
                clear hR
                go_wp2
                exact ⟨_, rfl, HR.out, Below.refl _ _, rfl⟩
              · intro g W hR hL
                have hB := hR.base
                simp only [Laid, Region.binds, forall_const, Bool.false_eq_true, false_implies, gatG] at hL
                simp [fillFrom, Act.put]
                generalize g 3 = y3 at hL ⊢
                obtain ⟨rfl, _⟩ := hL
                have HR := Lib.hid hR
                clear hR
                go_wp2
                exact ⟨_, rfl, HR.out, Below.refl _ _, rfl⟩
              · intro g W hR hL
                have hB := hR.base
                simp only [Laid, Region.binds, forall_const, Bool.false_eq_true, false_implies, gatG] at hL
                simp [fillFrom, Act.put]
                generalize g 0 = y0 at hL ⊢
                generalize g 2 = y2 at hL ⊢
                generalize g 4 = y4 at hL ⊢
                obtain ⟨rfl, rfl, rfl, _⟩ := hL
                have HR := Lib.hid hR
                clear hR
                go_wp2
                have hal := (Below.refl W.heap.size W).alloc (Nat.le_refl _)
                exact ⟨_, rfl, HR.out.alloc _, hal _, RowT.alloc hB _ _ _⟩
              · intro g W hR hL
                have hB := hR.base
                simp only [Laid, Region.binds, forall_const, Bool.false_eq_true, false_implies, gatG] at hL
                simp [fillFrom, Act.put]
                clear hL
                have HR := Lib.hid hR
                clear hR
                go_wp2
                exact ⟨_, rfl, HR.out, Below.refl _ _, rfl⟩
              · intro g W hR hL
                have hB := hR.base
                simp only [Laid, Region.binds, forall_const, Bool.false_eq_true, false_implies, gatG] at hL
                simp [fillFrom, Act.put]
                generalize g 6 = y6 at hL ⊢
                obtain ⟨rfl, _⟩ := hL
                have HR := Lib.hid hR
                clear hR
                go_wp2
                exact ⟨_, rfl, HR.out, Below.refl _ _, rfl⟩
              · intro g W hR hL
                have hB := hR.base
                simp only [Laid, Region.binds, forall_const, Bool.false_eq_true, false_implies, gatG] at hL
                simp [fillFrom, Act.put]
                clear hL
                have HR := Lib.hid hR
                clear hR
                go_wp2
                exact ⟨_, rfl, HR.out, Below.refl _ _, rfl⟩
              · intro g W hR hL
                have hB := hR.base
                simp only [Laid, Region.binds, forall_const, Bool.false_eq_true, false_implies, gatG] at hL
                simp [fillFrom, Act.put]
                generalize g 8 = y8 at hL ⊢
                obtain ⟨rfl, _⟩ := hL
                have HR := Lib.hid hR
                clear hR
                go_wp2
                exact ⟨_, rfl, HR.out, Below.refl _ _, rfl⟩
              · intro g W hR hL
                have hB := hR.base
                simp only [Laid, Region.binds, forall_const, Bool.false_eq_true, false_implies, gatG] at hL
                simp [fillFrom, Act.put]
                generalize g 7 = y7 at hL ⊢
                generalize g 9 = y9 at hL ⊢
                obtain ⟨rfl, rfl, _⟩ := hL
                have HR := Lib.hid hR
                clear hR
                go_wp2
                have hal := (Below.refl W.heap.size W).alloc (Nat.le_refl _)
                exact ⟨_, rfl, HR.out.alloc _, hal _, RowT.alloc hB _ _ _⟩
              · intro g W hR hL
                have hB := hR.base
                simp only [Laid, Region.binds, forall_const, Bool.false_eq_true, false_implies, gatG] at hL
                simp [fillFrom, Act.put]
                clear hL
                have HR := Lib.hid hR
                clear hR
                go_wp2
                exact ⟨_, rfl, HR.out, Below.refl _ _, rfl⟩
              · intro g W hR hL
                have hB := hR.base
                simp only [Laid, Region.binds, forall_const, Bool.false_eq_true, false_implies, gatG] at hL
                simp [fillFrom, Act.put]
                generalize g 11 = y11 at hL ⊢
                obtain ⟨rfl, _, _⟩ := hL
                have HR := Lib.hid hR
                clear hR
                have hmk := mkRatsM n (by omega)
                go_wp2
                have hal := (Below.refl W.heap.size W).alloc (Nat.le_refl _)
                exact ⟨_, rfl, HR.out.alloc _, hal _, RowT.alloc hB _ _ _⟩
              · intro g W hR hL
                have hB := hR.base
                simp only [Laid, Region.binds, forall_const, Bool.false_eq_true, false_implies, gatG] at hL
                simp [fillFrom, Act.put]
                clear hL
                have HR := Lib.hid hR
                clear hR
                go_wp2
                exact ⟨_, rfl, HR.out, Below.refl _ _, rfl⟩
              · intro g W hR hL
                have hB := hR.base
                simp only [Laid, Region.binds, forall_const, Bool.false_eq_true, false_implies, gatG] at hL
                simp [fillFrom, Act.put]
                generalize g 13 = y13 at hL ⊢
                obtain ⟨rfl, _, _⟩ := hL
                have HR := Lib.hid hR
                clear hR
                have hmk := mkRatsM n (by omega)
                go_wp2
                have hal := (Below.refl W.heap.size W).alloc (Nat.le_refl _)
                exact ⟨_, rfl, HR.out.alloc _, hal _, RowT.alloc hB _ _ _⟩
              · intro g W hR hL
                have hB := hR.base
                simp only [Laid, Region.binds, forall_const, Bool.false_eq_true, false_implies, gatG] at hL
                simp [fillFrom, Act.put]
                clear hL
                have HR := Lib.hid hR
                clear hR
                go_wp2
                exact ⟨_, rfl, HR.out, Below.refl _ _, rfl⟩
              · intro g W hR hL
                have hB := hR.base
                simp only [Laid, Region.binds, forall_const, Bool.false_eq_true, false_implies, gatG] at hL
                simp [fillFrom, Act.put]
                generalize g 15 = y15 at hL ⊢
                obtain ⟨rfl, _⟩ := hL
                have HR := Lib.hid hR
                clear hR
                go_wp2
                exact ⟨_, rfl, HR.out, Below.refl _ _, rfl⟩
              · intro g W hR hL
                have hB := hR.base
                simp only [Laid, Region.binds, forall_const, Bool.false_eq_true, false_implies, gatG] at hL
                simp [fillFrom, Act.put]
                generalize g 16 = y16 at hL ⊢
                obtain ⟨rfl, _, _⟩ := hL
                have HR := Lib.hid hR
                clear hR
                have hmk := mkRatsM lb (by omega)
                go_wp2
                have hal := (Below.refl W.heap.size W).alloc (Nat.le_refl _)
                exact ⟨_, rfl, HR.out.alloc _, hal _, RowT.alloc hB _ _ _⟩
              · intro g W hR hL
                have hB := hR.base
                simp only [Laid, Region.binds, forall_const, Bool.false_eq_true, false_implies, gatG] at hL
                simp [fillFrom, Act.put]
                generalize g 5 = y5 at hL ⊢
                generalize g 10 = y10 at hL ⊢
                generalize g 12 = y12 at hL ⊢
                generalize g 14 = y14 at hL ⊢
                generalize g 17 = y17 at hL ⊢
                obtain ⟨H5, H10, H12, H14, H17, _⟩ := hL
                have K5 := Lib.hid H5
                have K10 := Lib.hid H10
                have K12 := Lib.hid H12
                have K14 := Lib.hid H14
                have K17 := Lib.hid H17
                obtain ⟨b5, p5, rfl, q5⟩ := H5
                obtain ⟨b10, p10, rfl, q10⟩ := H10
                obtain ⟨b12, p12, rfl, q12⟩ := H12
                obtain ⟨b14, p14, rfl, q14⟩ := H14
                obtain ⟨b17, p17, rfl, q17⟩ := H17
                have HR := Lib.hid hR
                clear hR p5 q5 p10 q10 p12 q12 p14 q14 p17 q17
                go_wp2
                exact ⟨_, rfl, HR.out, Below.refl _ _, _, _, _, _, _, K5.out, K10.out, K12.out, K14.out, K17.out, rfl⟩
              · intro g W hR hL
                have hB := hR.base
                simp only [Laid, Region.binds, forall_const, Bool.false_eq_true, false_implies, gatG] at hL
                simp [fillFrom, Act.put]
                clear hL
                have HR := Lib.hid hR
                clear hR
                go_wp2
                exact ⟨_, rfl, HR.out.alloc _, (Below.refl W.heap.size W).alloc (Nat.le_refl _) _, CellT.alloc hB _ _⟩
            · intro ops g W hR hL
              simp only [List.dropLast, List.getLastD_cons, List.getLastD_nil, fillFrom, Act.put, List.length_cons, List.length_nil, Nat.reduceAdd, LaidAll] at hL ⊢
              have hB := hR.base
              have HV := hL.1.2
              have HP := hL.2
              simp only [gatG] at HV HP
              clear hL
              generalize g 18 = yv at HV ⊢
              generalize g 19 = yp at HP ⊢
              obtain ⟨r5, r10, r12, r14, r17, H5, H10, H12, H14, H17, rfl⟩ := HV
              obtain ⟨gp, hgp, rfl, hblk⟩ := HP
              have K5 := Lib.hid H5
              have K10 := Lib.hid H10
              have K12 := Lib.hid H12
              have K14 := Lib.hid H14
              have K17 := Lib.hid H17
              obtain ⟨b5, p5, rfl, q5⟩ := H5
              obtain ⟨b10, p10, rfl, q10⟩ := H10
              obtain ⟨b12, p12, rfl, q12⟩ := H12
              obtain ⟨b14, p14, rfl, q14⟩ := H14
              obtain ⟨b17, p17, rfl, q17⟩ := H17
              have HR := Lib.hid hR
              clear hR p5 q5 p10 q10 p12 q12 p14 q14 p17 q17
              have c0 : W.cell? ⟨gp, 0, none⟩ = some (.slice none 0 0) := by simp [World.cell?, hblk]
              have c1 : W.cell? ⟨gp, 1, none⟩ = some (.slice none 0 0) := by simp [World.cell?, hblk]
              have c2 : W.cell? ⟨gp, 2, none⟩ = some (.int .i64 0) := by simp [World.cell?, hblk]
              have c3 : W.cell? ⟨gp, 3, none⟩ = some (.int .i64 0) := by simp [World.cell?, hblk]
              have c4 : W.cell? ⟨gp, 4, none⟩ = some (.int .i64 0) := by simp [World.cell?, hblk]
              have c5 : W.cell? ⟨gp, 5, none⟩ = some (.slice none 0 0) := by simp [World.cell?, hblk]
              have c6 : W.cell? ⟨gp, 6, none⟩ = some (.slice none 0 0) := by simp [World.cell?, hblk]
              have c7 : W.cell? ⟨gp, 7, none⟩ = some (.slice none 0 0) := by simp [World.cell?, hblk]
              have fz : ∀ o, W.frozen? ⟨gp, o, none⟩ = false := fun o => by simp [World.frozen?, hblk]
              have HBk := Lib.hid hblk
              clear hblk
              go_wp2
              go_meet
              exact gatCut_mk rfl (by omega) (by omega) (by omega) HFl.out HSl.out hcf hsc HR.out hgp HBk.out K5.out K10.out K12.out K14.out K17.out

          case rest =>
            obtain ⟨gk, rfl, hgk, hbc2, hK⟩ := hcut.out
            have HK := Lib.hid (hK HF3.out HS3.out)
            have HBc := Lib.hid (HB3.out.trans (hbc2.mono hs3))
            have HIc := Lib.hid (HI3.out.below hbc2)
            have HBtc := Lib.hid (HBt3.out.below hbc2)
            have HVK := Lib.hid (gatK_valid (n := I.length) hfl hsl HFr.out HSr.out (by omega) (by omega) (by omega) (by omega) (by omega) (by omega))
            have HVL := Lib.hid (gatL_valid hbl HBr2.out (by omega) (by omega) (by omega) (by omega))
            have HEq : Hid (outL (gatK F Sd I.length A.length Bs.length) I = outL (gatL Bt I.length Bs.length) I) := by
              unfold Hid
              rw [gatK_out, gatL_out, gat_gat hfl hsl HSr.out, HBt.out]
            clear hcut hbc2 hK HF3 HS3 HB3 HI3 HBt3
            obtain ⟨q0, q1, q2, q3, q4, q5, q6, q7, hbx8, hKV⟩ := HK.out
            have HKV := Lib.hid hKV
            have HX8 := Lib.hid hbx8
            obtain ⟨a1, a2, a3, a4, a5, c1', c2', c3', c4', c5', e, _⟩ := hKV.ex
            clear hKV hbx8
            cases e
            obtain ⟨z0, z1, z2, z3, z4, z5, z6, z7, zlt⟩ := HX8.out
            go_upto_region 23 with fail
            obtain ⟨hKL, hbL⟩ := gatL_mk (n := I.length) (lb := Bs.length) (by omega) (by omega) hbl hbcc HKV.out HBtc.out
            have HKL := Lib.hid hKL
            have HX9 := Lib.hid (HX8.out.below hbL)
            have HV9 := Lib.hid (HKV.out.below hbL)
            have HI9 := Lib.hid (HIc.out.below hbL)
            have HB9 := Lib.hid (HBc.out.trans (hbL.mono HBc.out.size))
            have hLt := HX8.out.lt
            clear z0 z1 z2 z3 z4 z5 z6 z7 zlt HX8 HKV HIc HBc HK hKL hbL HBtc
            generalize wc.heap.size = gl at *
            generalize (((wc.alloc _).alloc _).alloc _) = w4 at *
            obtain ⟨z0, z1, z2, z3, z4, z5, z6, z7, zlt⟩ := HX9.out
            go_wp2_with fail
            refine (kOut HV9.out gatK_WF HI9.out).mono ?_
            intro e w5 hp
            rcases hp with ⟨_, _, hb5, aA, cA, rfl, hA⟩ | ⟨_, hc, _⟩ | ⟨hc, _⟩
            rotate_left
            · exact absurd (show (I.length : Int) = (gatK F Sd I.length A.length Bs.length).sizes.getD 0 0 from rfl) hc
            · rw [HVK.out] at hc; cases hc
            have HA5 := Lib.hid hA
            have HKL5 := Lib.hid (HKL.out.below hb5)
            have HI5 := Lib.hid (HI9.out.below hb5)
            have HB5 := Lib.hid (HB9.out.trans (hb5.mono HB9.out.size))
            clear hA hb5 z0 z1 z2 z3 z4 z5 z6 z7 zlt HX9 HV9 HI9 HB9 HKL
            obtain ⟨p0, p1, p2, p3, p4, p5, p6, p7, hbx9, hKV9⟩ := HKL5.out
            obtain ⟨z0, z1, z2, z3, z4, z5, z6, z7, zlt⟩ := hbx9
            go_wp2_with fail
            refine (kOut hKV9 gatL_WF HI5.out).mono ?_
            intro e w6 hp
            rcases hp with ⟨_, _, hb6, aB, cB, rfl, hB6⟩ | ⟨_, hc, _⟩ | ⟨hc, _⟩
            rotate_left
            · exact absurd (show (I.length : Int) = (gatL Bt I.length Bs.length).sizes.getD 0 0 from rfl) hc
            · rw [HVL.out] at hc; cases hc
            have HA6 := Lib.hid (HA5.out.below hb6)
            have HBI := Lib.hid hB6
            have HB6 := Lib.hid (HB5.out.trans (hb6.mono HB5.out.size))
            clear hB6 hb6 hKV9 z0 z1 z2 z3 z4 z5 z6 z7 zlt HKL5 HI5 HB5 HA5
            generalize outL (gatK F Sd I.length A.length Bs.length) I = X at *
            generalize outL (gatL Bt I.length Bs.length) I = Y at *
            obtain rfl : X = Y := HEq.out
            clear HEq
            go_wp2_with fail
            refine (rSameInts HA6.out HBI.out cA cB).mono ?_
            rintro e w7 ⟨rfl, hb7⟩
            have HB7 := Lib.hid (HB6.out.trans (hb7.mono HB6.out.size))
            clear hb7
            have hdec : decide (X = X) = true := by simp
            go_wp2
            go_ret
            exact ⟨rfl, HB7.out⟩

end Go.Proofs.Ythlmgejikbmmaaa

/-
  Contracts of the functions that the statement reaches: TenN, TenO, ColSpec, ColA, ColB, ColC, TenP, TenQ, ColJ, ColD.
-/
import Derived.Test.YtoppijdedkdjeaaGreatG25
import Derived.Test.YtoppijdedkdjeaaGreatG2
set_option linter.unusedVariables false
set_option linter.unusedSimpArgs false
set_option linter.constructorNameAsVariable false
set_option linter.deprecated false
set_option maxRecDepth 100000
set_option maxHeartbeats 3200000
namespace Go.Proofs.YtoppijdedkdjeaaGreat
open Go.RowKit
open Go.Lib (hid)
theorem box_cells {w w' : World} {cs : Array Value} {T : Nat} (hb : Below (w.heap.size + 1) (w.alloc (.cells cs T)) w') (j : Nat) (v : Value) (hj : cs[j]? = some v) :
  w'.cell? ⟨w.heap.size, j, none⟩ = some v := by
 rw [hb.cell (p := ⟨w.heap.size, j, none⟩) (by simp)]
 rw [World.cell?_alloc_at _ _ _ _ rfl]
 simpa using hj
theorem windowsL_cases (l : List Int) (kh kw s p : Int) :
  (∃ e, (e = 1 ∨ e = 7 ∨ e = 8) /\ windowsL l kh kw s p = ([], 0, 0, e)) ∨
  ∃ q : Win, q.Ok /\ q.total <= 262144 /\ l = [(q.C : Int), (q.H : Int), (q.W : Int)] /\ kh = q.kh /\ kw = q.kw /\ s = q.s /\ p = q.p /\ windowsL l kh kw s p = (q.all, (q.R : Int), (q.Q : Int), 0) := by
 cases h1 : argBad l kh kw s p
 ·cases h2 : shapeBad l kh kw p
  ·obtain ⟨q, hq, hwin, hl, hkh, hkw, hs, hp⟩ := winOf_ok h1 h2
   by_cases h3 : 262144 < (winOf l kh kw s p).total
   ·exact .inl ⟨8, by omega, windowsL_many h1 h2 h3⟩
   ·refine .inr ⟨q, hq, by rw [<- hwin]; omega, hl, hkh, hkw, hs, hp, ?_⟩
    rw [windowsL_ok h1 h2 h3, hwin]
  ·exact .inl ⟨7, by omega, windowsL_shape h1 h2⟩
 ·exact .inl ⟨1, by omega, windowsL_arg h1⟩
theorem Win.Ok.first {q : Win} (h : q.Ok) : q.all[0]? = some (q.one 0 0) := by
 have := q.all_get (r := 0) (c := 0) h.r2.1 h.q2.1
 simpa using this
theorem Win.len_bd {q : Win} (h : q.Ok) (ht : q.total <= 262144) : q.all.length <= 262144 /\ (q.one 0 0).length <= 262144 /\ q.all.length * (q.one 0 0).length = q.total /\ 1 <= q.all.length /\ 1 <= (q.one 0 0).length := by
 have e : q.all.length * (q.one 0 0).length = q.total := by
  rw [q.all_len, q.one_len]; unfold Win.total; rw [Nat.mul_assoc (q.R * q.Q * q.C), Nat.mul_assoc (q.R * q.Q)]
 have a1 : 1 * 1 <= q.all.length := by rw [q.all_len]; exact Nat.mul_le_mul h.r2.1 h.q2.1
 have a2 : 1 * (1 * 1) <= (q.one 0 0).length := by rw [q.one_len]; exact Nat.mul_le_mul h.c1 (Nat.mul_le_mul h.kh1 h.kw1)
 refine ⟨?_, ?_, e, by omega, by omega⟩
 ·exact Nat.le_trans (le_of_mul (b := (q.one 0 0).length) (by omega) (by rw [e]; exact Nat.le_refl _)) ht
 ·exact Nat.le_trans (le_of_mul (b := q.all.length) (by omega) (by rw [Nat.mul_comm, e]; exact Nat.le_refl _)) ht
def gatherOf (L : List (List Int)) : List Int := (List.range (L.getD 0 []).length).flatMap fun r => (List.range L.length).map fun c => (L.getD c []).getD r 0
def gatherL (l : List Int) (kind kh kw s p : Int) : List Int × Int × Int × Int :=
 if kind ≠ 2 then ([], 0, 0, 1) else if (windowsL l kh kw s p).2.2.2 ≠ 0 then ([], 0, 0, (windowsL l kh kw s p).2.2.2)
 else (gatherOf (windowsL l kh kw s p).1, (((windowsL l kh kw s p).1.getD 0 []).length : Int), ((windowsL l kh kw s p).1.length : Int), 0)
def poolOf (L : List (List Int)) (C n : Nat) : List Int := (List.range C).flatMap fun ch => L.flatMap fun x => (x.drop (ch * n)).take n
def poolL (l : List Int) (kind kh kw s : Int) : List Int × Int × Int :=
 if kind ≠ 3 /\ kind ≠ 4 then ([], 0, 1) else if (windowsL l kh kw s 0).2.2.2 ≠ 0 then ([], 0, (windowsL l kh kw s 0).2.2.2)
 else (poolOf (windowsL l kh kw s 0).1 (l.getD 0 0).toNat (kh.toNat * kw.toNat), kh * kw, 0)
theorem gatherL_kind {l : List Int} {kind kh kw s p : Int} (h : kind ≠ 2) : gatherL l kind kh kw s p = ([], 0, 0, 1) := by simp [gatherL, h]
theorem gatherL_err {l : List Int} {kh kw s p e : Int} (h : windowsL l kh kw s p = ([], 0, 0, e)) (he : e ≠ 0) : gatherL l 2 kh kw s p = ([], 0, 0, e) := by simp [gatherL, h, he]
theorem gatherL_ok {l : List Int} {kh kw s p : Int} {q : Win} (hq : q.Ok) (h : windowsL l kh kw s p = (q.all, (q.R : Int), (q.Q : Int), 0)) :
  gatherL l 2 kh kw s p = (gatherOf q.all, ((q.one 0 0).length : Int), (q.all.length : Int), 0) := by
 simp [gatherL, h, List.getD, hq.first]
theorem gatherOf_eq {q : Win} (hq : q.Ok) : gatherOf q.all = (List.range (q.one 0 0).length).flatMap fun r => (List.range q.all.length).map fun c => (q.all.getD c []).getD r 0 := by
 simp [gatherOf, List.getD, hq.first]
theorem gather_len {q : Win} (hq : q.Ok) : (gatherOf q.all).length = (q.one 0 0).length * q.all.length := by
 rw [gatherOf_eq hq]; exact flat_len _ _ _ (fun i _ => by simp)
theorem gather_get {q : Win} (hq : q.Ok) {r c : Nat} (hr : r < (q.one 0 0).length) (hc : c < q.all.length) {x : List Int} {d : Int} (hx : q.all[c]? = some x) (hd : x[r]? = some d) :
  (gatherOf q.all)[r * q.all.length + c]? = some d := by
 rw [gatherOf_eq hq, flat_get _ _ _ r c (fun i _ => by simp) hr hc]
 have hx' : q.all.getD c [] = x := by simp [List.getD, hx]
 simp only [List.getElem?_map, List.getElem?_range hc, Option.map_some, hx']
 simp [List.getD, hd]
theorem all_one_len (q : Win) {c : Nat} {x : List Int} (hx : q.all[c]? = some x) : x.length = (q.one 0 0).length := by
 have hlt : c < q.all.length := (List.getElem?_eq_some_iff.1 hx).1
 obtain ⟨_, _, _, h⟩ := q.all_pos hlt
 rw [hx] at h
 rw [Option.some.inj h, q.one_len, q.one_len]
theorem gather_wf {q : Win} (hq : q.Ok) : ∀ x ∈ gatherOf q.all, -1 <= x /\ x < 16384 := by
 intro x hx
 rw [gatherOf_eq hq] at hx
 simp only [List.mem_flatMap, List.mem_map, List.mem_range] at hx
 obtain ⟨r, hr, c, hc, rfl⟩ := hx
 obtain ⟨_, _, _, h⟩ := q.all_pos hc
 have hl : r < (q.one (c / q.Q) (c % q.Q)).length := by rw [q.one_len]; rw [q.one_len] at hr; exact hr
 have hg : (q.one (c / q.Q) (c % q.Q))[r]? = some (q.one (c / q.Q) (c % q.Q))[r] := List.getElem?_eq_getElem hl
 simp only [List.getD, h, Option.getD_some, hg]
 exact hq.one_bd _ _ _ (List.getElem_mem hl)
def fillRow (G : List Int) (k : Nat) : List Int := G.take k ++ List.replicate (G.length - k) 0
theorem fillRow_zero (G : List Int) : fillRow G 0 = List.replicate G.length 0 := by simp [fillRow]
theorem fillRow_all (G : List Int) : fillRow G G.length = G := by simp [fillRow]
theorem fillRow_len (G : List Int) {k : Nat} (hk : k <= G.length) : (fillRow G k).length = G.length := by simp [fillRow]; omega
theorem fillRow_set {G : List Int} {k : Nat} {d : Int} (hd : G[k]? = some d) : (fillRow G k).set k d = fillRow G (k + 1) := by
 have hk : k < G.length := (List.getElem?_eq_some_iff.1 hd).1
 unfold fillRow
 have h1 : (G.take k).length = k := by simp; omega
 rw [List.set_append_right _ _ (by omega), h1, Nat.sub_self, List.take_add_one, hd, show G.length - k = (G.length - (k + 1)) + 1 by omega, List.replicate_succ]
 simp
abbrev layerV (kind fr o kh kw s p : Int) (aw : Option Addr) (nw cw : Nat) (ab : Option Addr) (nb cb : Nat) : Value :=
 .agg #[.int .i64 kind, .int .i64 fr, .int .i64 o, .int .i64 kh, .int .i64 kw, .int .i64 s, .int .i64 p, .slice aw nw cw, .slice ab nb cb]
def GatherPost (w : World) (R : List Int × Int × Int × Int) (e : Ending) (w' : World) : Prop :=
 ∃ a c, e = .returned (.tuple #[.slice a R.1.length c, .int .i64 R.2.1, .int .i64 R.2.2.1, .int .i64 R.2.2.2]) /\ Ints w' (fun b => w.heap.size <= b) a R.1 /\ Below w.heap.size w w'
theorem gatherPost_err {w w' : World} {R : List Int × Int × Int × Int} {e : Int} (h : R = ([], 0, 0, e)) (hb : Below w.heap.size w w') :
  GatherPost w R (.returned (.tuple #[.slice none 0 0, .int .i64 0, .int .i64 0, .int .i64 e])) w' := by
 subst h; exact ⟨none, 0, rfl, Ints.nil _ _ _, hb⟩
def PoolPost (w : World) (R : List Int × Int × Int) (e : Ending) (w' : World) : Prop :=
 ∃ a c, e = .returned (.tuple #[.slice a R.1.length c, .int .i64 R.2.1, .int .i64 R.2.2]) /\ Ints w' (fun b => w.heap.size <= b) a R.1 /\ Below w.heap.size w w'
theorem poolPost_err {w w' : World} {R : List Int × Int × Int} {e : Int} (h : R = ([], 0, e)) (hb : Below w.heap.size w w') :
  PoolPost w R (.returned (.tuple #[.slice none 0 0, .int .i64 0, .int .i64 e])) w' := by
 subst h; exact ⟨none, 0, rfl, Ints.nil _ _ _, hb⟩
theorem tGather {w : World} {F : Nat -> Prop} {a : Option Addr} {l : List Int} (ca : Nat) (kind fr o kh kw s p : Int) (aw : Option Addr) (nw cw : Nat) (ab : Option Addr) (nb cb : Nat) (h : Ints w F a l) :
  Calls Tryz.prog 31 #[.slice a l.length ca, layerV kind fr o kh kw s p aw nw cw ab nb cb] w (GatherPost w (gatherL l kind kh kw s p)) := by
 have h1 := h.below ((Below.refl _ w).alloc (Nat.le_refl _) (.cells #[.int .i64 kind, .int .i64 fr, .int .i64 o, .int .i64 kh, .int .i64 kw, .int .i64 s, .int .i64 p, .slice aw nw cw, .slice ab nb cb] 42))
 have HZ := hid (tWin ca kh kw s p h1)
 clear h h1
 by_cases hk : kind = 2
 ·subst hk
  rcases windowsL_cases l kh kw s p with ⟨er, he, hw⟩ | ⟨q, hq, ht, hl, hkh, hkw, hs, hp, hw⟩
  ·have HG := hid (gatherL_err hw (by omega))
   have HW := hid hw
   have hne : (er != 0) = true := by rw [bne_iff_ne]; omega
   clear hw he
   go_enter Tryz.func31, Tryz.ntmps31
   go_wp2_with fail
   refine HZ.out.mono ?_
   rintro e w2 ⟨a2, c2, rfl, _, hb⟩
   rw [HW.out]
   go_wp2
   refine bodyPost_ret (results_tmp4 rfl _ _ _) rfl ?_
   exact gatherPost_err HG.out (((Below.refl _ w).alloc (Nat.le_refl _) _).trans (hb.mono (by simp)))
  ·have HG := hid (gatherL_ok hq hw)
   have HW := hid hw
   obtain ⟨b1, b2, b3, b4, b5⟩ := Win.len_bd hq ht
   have HL := hid (gather_len hq)
   have hgl : (gatherOf q.all).length <= 262144 := by rw [HL.out, Nat.mul_comm, b3]; exact ht
   have hpr := prod_bd11 (a := (q.one 0 0).length) (b := q.all.length) (A := 262144) (B := 262144) (by omega) (by omega) (by omega) (by omega)
   obtain ⟨hpr1, hpr2⟩ := hpr
   have hcast : ((gatherOf q.all).length : Int) = ((q.one 0 0).length : Int) * (q.all.length : Int) := by rw [HL.out]; simp
   have HCast := hid hcast
   have HF := hid hq.first
   clear hw ht hl hkh hkw hs hp b3 hcast
   obtain ⟨i0, hi, hz0, hz1, hz2⟩ := info_parts Tryz.info3
   go_enter Tryz.func31, Tryz.ntmps31
   go_wp2_with fail
   refine HZ.out.mono ?_
   rintro e w2 ⟨a2, c2, rfl, hI, hb⟩
   rw [HW.out] at hI ⊢
   have hB2 : Below w.heap.size w w2 := ((Below.refl _ w).alloc (Nat.le_refl _) _).trans (hb.mono (by simp))
   obtain ⟨bb, off, l0, a0, k0, rfl, hc0, e0, _, _, hbb, _⟩ := hI.pick (k := 0) (show 0 < q.all.length by omega)
   obtain rfl : l0 = q.one 0 0 := by rw [HF.out] at e0; cases e0; rfl
   have hc0' : w2.cell? ⟨bb, off, none⟩ = some (.slice a0 (q.one 0 0).length k0) := hc0
   clear hc0 e0 hb
   have HI := hid hI
   clear hI
   go_wp2_with (at_make; refine wpList_make_full _ rfl _ _ 22 rfl w2.heap.size 3 i0 (.int .i64 0) 1 Tryz.underlying22 hi hz0 hz1 _ _ _ _ (gatherOf q.all).length rfl rfl HCast.out.symm HCast.out.symm ?b2 ?b3 (Nat.le_refl _) ?_)
   case b2 => rw [hz2]; omega
   case b3 => unfold maxLen; omega
   intro w3 hown0 hgrow0
   have HO : Hid (w3.ownsRow w2.heap.size 3 1 (.slice (some ⟨w2.heap.size, 0, none⟩) (gatherOf q.all).length (gatherOf q.all).length) (gatherOf q.all).length ((fillRow (gatherOf q.all) 0).map (Value.int .i64))) := by
    have e : (madeCells #[Value.int IntKind.i64 0] (gatherOf q.all).length).toList = (fillRow (gatherOf q.all) 0).map (Value.int .i64) := by
     rw [fillRow_zero]; simp [toList_madeCells_one]
    unfold Hid
    rw [<- e]; simpa [Value.cells] using hown0
   have hB3 : Below w2.heap.size w2 w3 := (Below.refl _ _).grown hgrow0 (Nat.le_refl _) (fun k h => by cases h)
   clear hown0 hgrow0 hz0 hz1 hz2 hi hc0'
   go_wp2
   go_loopw [49] (fun j wr => ∃ r : Nat, r <= (q.one 0 0).length /\ j = .int .i64 r /\ Hid (wr.ownsRow w2.heap.size 3 1 (.slice (some ⟨w2.heap.size, 0, none⟩) (gatherOf q.all).length (gatherOf q.all).length) (gatherOf q.all).length ((fillRow (gatherOf q.all) (r * q.all.length)).map (Value.int .i64))) /\ Below w2.heap.size w2 wr)
    (fun j _ => (q.one 0 0).length - (intOf j).toNat)
   case atStart => exact ⟨0, Nat.zero_le _, rfl, by rw [Nat.zero_mul]; exact HO, hB3⟩
   case round =>
    obtain ⟨r, hr, rfl, hO, hBr⟩ := hrel
    by_cases hlt : r < (q.one 0 0).length
    ·go_wp2
     go_loopw [53] (fun j wi => ∃ c : Nat, c <= q.all.length /\ j = .int .i64 c /\ Hid (wi.ownsRow w2.heap.size 3 1 (.slice (some ⟨w2.heap.size, 0, none⟩) (gatherOf q.all).length (gatherOf q.all).length) (gatherOf q.all).length ((fillRow (gatherOf q.all) (r * q.all.length + c)).map (Value.int .i64))) /\ Below w2.heap.size w2 wi)
      (fun j _ => q.all.length - (intOf j).toNat)
     case atStart => exact ⟨0, Nat.zero_le _, rfl, hO, hBr⟩
     case round =>
      clear hO hBr
      obtain ⟨c, hc, rfl, hO, hBr⟩ := hrel
      by_cases hltc : c < q.all.length
      ·obtain ⟨y1, o1, l1, a1, k1, hey, d1, e1, _, f1, _, _⟩ := (HI.out.below hBr).pick hltc
       obtain ⟨rfl, rfl⟩ : bb = y1 /\ off = o1 := by cases hey; exact ⟨rfl, rfl⟩
       have hl1 := all_one_len q e1
       obtain ⟨z1, p1, v1, rfl, m1, r1, _, _, _⟩ := f1.pick (show r < l1.length by omega)
       have hg := gather_get hq hlt hltc e1 r1
       have hidx : r * q.all.length + c < (gatherOf q.all).length := (List.getElem?_eq_some_iff.1 hg).1
       have hcell : wr.cell? ⟨w2.heap.size, r * q.all.length + c, none⟩ = ((fillRow (gatherOf q.all) (r * q.all.length + c)).map (Value.int .i64))[r * q.all.length + c]? := hO.out.cellAt _ (by omega)
       obtain ⟨z, hz⟩ : ∃ z, ((fillRow (gatherOf q.all) (r * q.all.length + c)).map (Value.int .i64))[r * q.all.length + c]? = some z := ⟨_, List.getElem?_eq_getElem (by simp; rw [fillRow_len _ (by omega)]; exact hidx)⟩
       rw [hz] at hcell
       have hfr : wr.frozen? ⟨w2.heap.size, r * q.all.length + c, none⟩ = false := hO.out.frozenAt _
       have HST := hid (hO.out.stored (r * q.all.length + c) (.int .i64 v1))
       have HGG := hid hg
       have hrc : (0 : Int) <= (r : Int) * (q.all.length : Int) /\ (r : Int) * (q.all.length : Int) <= 262144 * 262144 := prod_bd11 (by omega) (by omega) (by omega) (by omega)
       obtain ⟨hrc1, hrc2⟩ := hrc
       have hcst : ((r : Int) * (q.all.length : Int) + (c : Int)).toNat = r * q.all.length + c := by
        have : ((r * q.all.length + c : Nat) : Int) = (r : Int) * (q.all.length : Int) + (c : Int) := by simp
        omega
       have hlti : (r : Int) * (q.all.length : Int) + (c : Int) < ((gatherOf q.all).length : Int) := by
        have : ((r * q.all.length + c : Nat) : Int) = (r : Int) * (q.all.length : Int) + (c : Int) := by simp
        omega
       have hrl : r < l1.length := by omega
       clear hz hg e1 r1 hl1 f1 hey
       go_wp2
       go_roundw
       case rel =>
        refine ⟨c + 1, by omega, by go_num, ?_, hBr.setCell (Nat.le_refl _) _⟩
        have := HST.out.1
        rw [<- List.map_set, fillRow_set HGG.out] at this
        exact this
       case measure => simp [intOf]; omega
      ·obtain rfl : c = q.all.length := by omega
       go_wp2
       go_roundw
       case rel => exact ⟨r + 1, by omega, by go_num, by rw [Nat.succ_mul]; exact hO, hBr⟩
       case measure => simp [intOf]; omega
    ·obtain rfl : r = (q.one 0 0).length := by omega
     go_wp2
     refine bodyPost_ret (results_tmp4 rfl _ _ _) rfl ?_
     have ho := hO.out
     rw [<- HL.out, fillRow_all] at ho
     obtain ⟨a', c', hv', hI'⟩ := Ints.own ho (fun x hx => by have := gather_wf hq x hx; omega) (by omega)
     unfold GatherPost
     rw [HG.out]
     exact ⟨a', c', by rw [<- hv']; rfl, hI'.mono (fun b _ hb => by simp [Value.ownBlock] at hb; have := hB2.size; omega), hB2.trans (hBr.mono hB2.size)⟩
 ·have HG := hid (gatherL_kind (l := l) (kh := kh) (kw := kw) (s := s) (p := p) hk)
  have hne : (kind != 2) = true := by rw [bne_iff_ne]; exact hk
  go_enter Tryz.func31, Tryz.ntmps31
  go_wp2
  refine bodyPost_ret (results_tmp4 rfl _ _ _) rfl ?_
  exact gatherPost_err HG.out ((Below.refl _ w).alloc (Nat.le_refl _) _)
theorem poolL_kind {l : List Int} {kind kh kw s : Int} (h : ¬ (kind = 3 ∨ kind = 4)) : poolL l kind kh kw s = ([], 0, 1) := by
 unfold poolL; rw [if_pos (by omega)]
theorem poolL_err {l : List Int} {kind kh kw s e : Int} (hk : kind = 3 ∨ kind = 4) (h : windowsL l kh kw s 0 = ([], 0, 0, e)) (he : e ≠ 0) : poolL l kind kh kw s = ([], 0, e) := by
 unfold poolL; rw [if_neg (by omega), h]; simp [he]
theorem poolL_ok {l : List Int} {kind kh kw s : Int} {q : Win} {n : Nat} (hk : kind = 3 ∨ kind = 4) (hl : l = [(q.C : Int), (q.H : Int), (q.W : Int)]) (h1 : kh = q.kh) (h2 : kw = q.kw) (hn : q.kh * q.kw = n)
  (h : windowsL l kh kw s 0 = (q.all, (q.R : Int), (q.Q : Int), 0)) : poolL l kind kh kw s = (poolOf q.all q.C n, (n : Int), 0) := by
 unfold poolL
 rw [if_neg (by omega), h, <- hn]
 subst hl h1 h2
 simp
theorem pool_wf {q : Win} (hq : q.Ok) (C n : Nat) : ∀ x ∈ poolOf q.all C n, -1 <= x /\ x < 16384 := by
 intro x hx
 simp only [poolOf, List.mem_flatMap, List.mem_range] at hx
 obtain ⟨ch, _, y, hy, hx⟩ := hx
 obtain ⟨i, hi, e⟩ := List.getElem_of_mem hy
 obtain ⟨_, _, _, h⟩ := q.all_pos hi
 rw [List.getElem?_eq_getElem hi, e] at h
 have hx' := List.mem_of_mem_drop (List.mem_of_mem_take hx)
 rw [Option.some.inj h] at hx'
 exact hq.one_bd _ _ _ hx'
theorem suc_mul_cast (r n : Nat) : ((r : Int) + 1) * (n : Int) = ((r * n + n : Nat) : Int) := by rw [Int.add_mul]; simp
theorem toNat_suc_mul (r n : Nat) : (((r : Int) + 1) * (n : Int)).toNat = r * n + n := by rw [suc_mul_cast]; exact Int.toNat_natCast _
theorem wpList_appIntsN {P : Program} {w : World} {ops : Array Oper} {rest : List Oper} {o : Oper} {a : Act} {Q : Exit -> Act -> World -> Prop} (hgd : o.guard = none) (s x : Operand) (t : TypeId)
  (ho : o.op = .call { callee := .builtin .append, args := #[s, x], argTypes := #[t, t] })
  (base : Nat) (e : TypeId) (z : Value) (bytes : Nat) (ht : P.underlying t = some (.slice e)) (hinfo : (P.info? e).map (fun i => (i.zero, i.size, i.bytes)) = some (some z, 1, bytes)) (hz1 : z.cells.size = 1)
  (v : Value) (n : Nat) (xs : List Value) (hs : a.eval s = v) (hown : w.ownsRow base e 1 v n xs) {F : Nat -> Prop} {ad : Option Addr} {l : List Int} (c : Nat) (hl : Ints w F ad l) {m : Nat} (hm : l.length = m)
  (hx : a.eval x = .slice ad m c)
  (hbytes : (n + m) * bytes <= 140737488355328) (h63 : n + m <= maxLen) (hbase : base <= w.heap.size)
  (h : ∀ v' w', w'.ownsRow base e 1 v' (n + m) (xs ++ l.map (Value.int .i64)) -> w.grownBy w' v.ownBlock -> Next w v v' -> wpList P ops Q rest (a.put o.dst v') w') :
  wpList P ops Q (o :: rest) a w := by
 subst hm
 exact wpList_appInts hgd s x t ho base e z bytes ht hinfo hz1 v n xs hs hown c hl hx hbytes h63 hbase h
theorem Ints.sub {w : World} {F : Nat -> Prop} {b off : Nat} {l : List Int} (h : Ints w F (some ⟨b, off, none⟩) l) {lo n : Nat} (hn : lo + n <= l.length) :
  ((l.drop lo).take n).length = n /\ Ints w F (some ⟨b, off + lo, none⟩) ((l.drop lo).take n) := by
 have hlen : ((l.drop lo).take n).length = n := by simp; omega
 refine ⟨hlen, fun x hx => h.wf x (List.mem_of_mem_drop (List.mem_of_mem_take hx)), by have := h.len; omega, ?_⟩
 rcases h.row with rfl | ⟨b', off', hb, hF, hs, hc⟩
 ·exact .inl (by simp)
 ·cases hb
  refine .inr ⟨b, off + lo, rfl, hF, hs, fun j d hj => ?_⟩
  have hj' : j < n := by have := (List.getElem?_eq_some_iff.1 hj).1; omega
  rw [List.getElem?_take_of_lt hj', List.getElem?_drop] at hj
  rw [Nat.add_assoc]
  exact hc _ _ hj
theorem tPool {w : World} {F : Nat -> Prop} {a : Option Addr} {l : List Int} (ca : Nat) (kind fr o kh kw s p : Int) (aw : Option Addr) (nw cw : Nat) (ab : Option Addr) (nb cb : Nat) (h : Ints w F a l) :
  Calls Tryz.prog 32 #[.slice a l.length ca, layerV kind fr o kh kw s p aw nw cw ab nb cb] w (PoolPost w (poolL l kind kh kw s)) := by
 have h1 := h.below ((Below.refl _ w).alloc (Nat.le_refl _) (.cells #[.int .i64 kind, .int .i64 fr, .int .i64 o, .int .i64 kh, .int .i64 kw, .int .i64 s, .int .i64 p, .slice aw nw cw, .slice ab nb cb] 42))
 have HZ := hid (tWin ca kh kw s 0 h1)
 have HH := hid h
 clear h h1
 by_cases hk : kind = 3 ∨ kind = 4
 ·have hkd : ((kind != 3) = false) ∨ ((kind != 3) = true /\ (kind != 4) = false) := by
   rcases hk with rfl | rfl
   ·exact .inl rfl
   ·exact .inr ⟨rfl, rfl⟩
  have HB : Hid (Below w.heap.size w (w.alloc (.cells #[.int .i64 kind, .int .i64 fr, .int .i64 o, .int .i64 kh, .int .i64 kw, .int .i64 s, .int .i64 p, .slice aw nw cw, .slice ab nb cb] 42))) := (Below.refl _ w).alloc (Nat.le_refl _) _
  rcases windowsL_cases l kh kw s 0 with ⟨er, he, hw⟩ | ⟨q, hq, ht, hl, hkh, hkw, hs, hp, hw⟩
  ·have HG := hid (poolL_err hk hw (by omega))
   have HW := hid hw
   have hne : (er != 0) = true := by rw [bne_iff_ne]; omega
   clear hw he hk
   rcases hkd with hkd | ⟨hkd, hkd2⟩
   all_goals
    go_enter Tryz.func32, Tryz.ntmps32
    go_wp2_with fail
    refine HZ.out.mono ?_
    rintro e w2 ⟨a2, c2, rfl, _, hb⟩
    rw [HW.out]
    go_wp2
    refine bodyPost_ret (results_tmp3 rfl _ _ _) rfl ?_
    exact poolPost_err HG.out (HB.out.trans (hb.mono (by simp)))
  ·obtain ⟨n, hn⟩ : ∃ n : Nat, q.kh * q.kw = n := ⟨_, rfl⟩
   have HG := hid (poolL_ok hk hl hkh hkw hn hw)
   have HW := hid hw
   obtain ⟨b1, b2, b3, b4, b5⟩ := Win.len_bd hq ht
   have hn1 : 1 <= n := by have : 1 * 1 <= q.kh * q.kw := Nat.mul_le_mul hq.kh1 hq.kw1; omega
   have hn2 : n <= 4096 := by have : q.kh * q.kw <= 64 * 64 := Nat.mul_le_mul hq.kh2 hq.kw2; omega
   have hone : ∀ (c : Nat) (x : List Int), q.all[c]? = some x -> x.length = q.C * n := fun c x hx => by rw [all_one_len q hx, q.one_len, hn]
   have hNn : q.all.length * n <= 262144 := by
    have h1 : q.all.length * n <= q.all.length * (q.one 0 0).length := Nat.mul_le_mul_left _ (by rw [q.one_len, hn]; exact Nat.le_mul_of_pos_left n hq.c1)
    omega
   have HO1 := hid hone
   have HPW := hid (pool_wf hq q.C n)
   have hcst : (q.kh : Int) * (q.kw : Int) = (n : Int) := by rw [<- hn]; simp
   have hC1 := hq.c1
   have hC2 := hq.c2
   obtain ⟨bs, os, x0, x1, x2, rfl, g0, _, _, e0, _, _⟩ := HH.out.three (by rw [hl]; rfl)
   obtain rfl : x0 = q.C := by rw [hl] at e0; simpa using e0.symm
   have hbs := World.block_lt_of_cell? w _ g0
   have HG0 := hid g0
   have h3 : 0 < l.length := by rw [hl]; simp
   have HCST := hid hcst
   have hkh1 := hq.kh1; have hkh2 := hq.kh2; have hkw1 := hq.kw1; have hkw2 := hq.kw2
   subst hkh
   subst hkw
   clear hw ht hl hs hp b3 e0 g0 hn hk hone hcst HH
   rcases hkd with hkd | ⟨hkd, hkd2⟩
   all_goals
    go_enter Tryz.func32, Tryz.ntmps32
    go_wp2_with fail
    refine HZ.out.mono ?_
    rintro e w2 ⟨a2, c2, rfl, hI, hb⟩
    rw [HW.out] at hI ⊢
    have hB2 : Below w.heap.size w w2 := HB.out.trans (hb.mono (by simp))
    have hbx : Below (w.heap.size + 1) (w.alloc (.cells #[.int .i64 kind, .int .i64 fr, .int .i64 o, .int .i64 q.kh, .int .i64 q.kw, .int .i64 s, .int .i64 p, .slice aw nw cw, .slice ab nb cb] 42)) w2 := by simpa using hb
    have c3 := box_cells hbx 3 _ rfl
    have c4 := box_cells hbx 4 _ rfl
    have HI := hid hI
    have hcst := HCST.out
    have g0 := (hB2.cell (p := ⟨bs, os, none⟩) hbs).trans HG0.out
    clear hI hb hbx
    go_wp2
    clear c3 c4 hcst g0
    go_loopw [12, 48] (fun v j wr => ∃ (r : Nat) (P : List Int), r <= q.C /\ j = .int .i64 r /\ Hid (P = (List.range r).flatMap fun ch => q.all.flatMap fun x => (x.drop (ch * n)).take n) /\
      P.length <= r * 262144 /\ Hid (wr.ownsRow w2.heap.size 3 1 v P.length (P.map (Value.int .i64))) /\ Below w2.heap.size w2 wr)
     (fun _ j _ => q.C - (intOf j).toNat)
    case atStart => exact ⟨0, [], Nat.zero_le _, rfl, rfl, by simp, World.ownsRow_nil _ _ _ _, Below.refl _ _⟩
    case round =>
     obtain ⟨r, P, hr, rfl, HP, hPl, hO, hBr⟩ := hrel
     have g0 := ((hB2.trans (hBr.mono hB2.size)).cell (p := ⟨bs, os, none⟩) hbs).trans HG0.out
     by_cases hlt : r < q.C
     ·go_wp2
      go_loopw [12, 53] (fun v j wi => ∃ (c : Nat) (T : List Int), c <= q.all.length /\ j = .int .i64 c /\ Hid (T = P ++ (q.all.take c).flatMap fun x => (x.drop (r * n)).take n) /\ T.length <= r * 262144 + c * n /\
        Hid (wi.ownsRow w2.heap.size 3 1 v T.length (T.map (Value.int .i64))) /\ Below w2.heap.size w2 wi)
       (fun _ j _ => q.all.length - (intOf j).toNat)
      case atStart => exact ⟨0, P, Nat.zero_le _, rfl, by simp [Hid], by rw [Nat.zero_mul, Nat.add_zero]; exact hPl, hO, hBr⟩
      case round =>
       clear hO hBr g0
       obtain ⟨c, T, hc, rfl, HT, hTl, hO, hBr⟩ := hrel
       by_cases hltc : c < q.all.length
       ·obtain ⟨y1, o1, l1, a1, k1, rfl, d1, e1, hcap, f1, _, _⟩ := (HI.out.below hBr).pickc hltc
        have hl1 := HO1.out c l1 e1
        have hrn : (r + 1) * n <= q.C * n := Nat.mul_le_mul_right _ hlt
        have hrs : (r + 1) * n = r * n + n := Nat.succ_mul _ _
        have hcn : (c + 1) * n <= q.all.length * n := Nat.mul_le_mul_right _ hltc
        have hcs : (c + 1) * n = c * n + n := Nat.succ_mul _ _
        obtain ⟨z1, p1, v1, rfl, m1, r1, _, _, _⟩ := f1.pick (k := 0) (show 0 < l1.length by omega)
        have hsub := f1.sub (lo := r * n) (n := n) (by omega)
        have HSUB := hid hsub.2
        have hsl := hsub.1
        have HSL := hid hsl
        have HE1 := hid e1
        have i1 : (0 : Int) <= (r : Int) * (n : Int) /\ (r : Int) * (n : Int) <= 16384 * 4096 := prod_bd11 (by omega) (by omega) (by omega) (by omega)
        have i2 : (0 : Int) <= ((r : Int) + 1) * (n : Int) /\ ((r : Int) + 1) * (n : Int) <= 16385 * 4096 := prod_bd11 (by omega) (by omega) (by omega) (by omega)
        have i3 : ((r : Int) * (n : Int)).toNat = r * n := by rw [<- Int.natCast_mul, Int.toNat_natCast]
        have i4 : (((r : Int) + 1) * (n : Int)).toNat = r * n + n := toNat_suc_mul r n
        have i5 : (r : Int) * (n : Int) = ((r * n : Nat) : Int) := by simp
        have i6 : ((r : Int) + 1) * (n : Int) = ((r * n + n : Nat) : Int) := suc_mul_cast r n
        have hcl : r * n + n <= l1.length := by omega
        have hck : r * n + n <= k1 := by omega
        have hcne : ¬ k1 = r * n := by omega
        obtain ⟨i1a, i1b⟩ := i1
        obtain ⟨i2a, i2b⟩ := i2
        have I5 := hid i5
        have I6 := hid i6
        clear e1 r1 f1 hl1 hsub hsl m1 i5 i6
        go_wp2_with (at_builtin; refine wpList_appIntsN rfl (.tmp 57) (.tmp 66) 22 rfl w2.heap.size 3 (.int .i64 0) 8 Tryz.underlying22 Tryz.info3 rfl _ T.length _ rfl hO.out _ HSUB.out HSL.out rfl (by omega) (by unfold maxLen; omega) hBr.size ?_; intro v' w' hown hg hn)
        go_roundw
        case rel =>
         have hTl' : (T ++ (l1.drop (r * n)).take n).length = T.length + ((l1.drop (r * n)).take n).length := List.length_append
         refine ⟨c + 1, T ++ (l1.drop (r * n)).take n, by omega, by go_num, ?_, by rw [hTl', HSL.out, hcs]; omega, ?_, hBr.grown hg hBr.size (fun k hk => (hO.out.lt k hk).1)⟩
         ·unfold Hid; rw [List.take_add_one, HE1.out, HT.out]; simp
         ·unfold Hid; rw [hTl', HSL.out, List.map_append]; exact hown
        case measure => simp [intOf]; omega
       ·obtain rfl : c = q.all.length := by omega
        go_wp2
        go_roundw
        case rel => exact ⟨r + 1, T, by omega, by go_num, by
         unfold Hid
         have := flat_snoc [] (fun ch => q.all.flatMap fun x => (x.drop (ch * n)).take n) r
         simp only [List.nil_append] at this
         rw [this, <- HP.out]; have h2 := HT.out; rw [List.take_length] at h2; exact h2, by rw [Nat.succ_mul]; omega, hO, hBr⟩
        case measure => simp [intOf]; omega
     ·obtain rfl : r = q.C := by omega
      go_wp2
      refine bodyPost_ret (results_tmp3 rfl _ _ _) rfl ?_
      have hPe : P = poolOf q.all q.C n := HP.out
      have hown := hO.out
      obtain ⟨a', c', hv', hI'⟩ := Ints.own hown (fun x hx => by have := HPW.out x (hPe ▸ hx); omega) (by omega)
      unfold PoolPost
      rw [HG.out]
      refine ⟨a', c', ?_, ?_, hB2.trans (hBr.mono hB2.size)⟩
      ·rw [<- hPe, <- hv']; rfl
      ·rw [<- hPe]
       have hlt := hown.lt
       exact hI'.mono (fun b _ hb => by have := (hlt b hb).1; have := hB2.size; omega)
 ·have HG := hid (poolL_kind (l := l) (kh := kh) (kw := kw) (s := s) hk)
  have hne : (kind != 3) = true := by rw [bne_iff_ne]; omega
  have hne4 : (kind != 4) = true := by rw [bne_iff_ne]; omega
  clear hk
  go_enter Tryz.func32, Tryz.ntmps32
  go_wp2
  refine bodyPost_ret (results_tmp3 rfl _ _ _) rfl ?_
  exact poolPost_err HG.out ((Below.refl _ w).alloc (Nat.le_refl _) _)
theorem flatMap_range {α β : Type} (L : List α) (f : α -> List β) (d : α) : L.flatMap f = (List.range L.length).flatMap fun i => f (L.getD i d) := by
 have h : L = (List.range L.length).map fun i => L.getD i d := by
  apply List.ext_getElem
  ·simp
  ·intro i h1 h2; simp [List.getD, h1]
 conv => lhs; rw [h]
 rw [List.flatMap_map]
theorem pool_len {q : Win} : (poolOf q.all q.C (q.kh * q.kw)).length = q.C * (q.all.length * (q.kh * q.kw)) := by
 unfold poolOf
 refine flat_len _ _ _ (fun ch hch => ?_)
 rw [flatMap_range _ _ []]
 refine flat_len _ _ _ (fun c hc => ?_)
 obtain ⟨_, h1, h2, h3⟩ := q.all_pos hc
 have : q.all.getD c [] = q.one (c / q.Q) (c % q.Q) := by simp [List.getD, h3]
 rw [this]
 simp only [List.length_take, List.length_drop, q.one_len]
 have : (ch + 1) * (q.kh * q.kw) <= q.C * (q.kh * q.kw) := Nat.mul_le_mul_right _ hch
 rw [Nat.succ_mul] at this
 omega
theorem pool_get {q : Win} {ch c t : Nat} (hch : ch < q.C) (hc : c < q.all.length) (ht : t < q.kh * q.kw) :
  (poolOf q.all q.C (q.kh * q.kw))[(ch * q.all.length + c) * (q.kh * q.kw) + t]? = (q.one (c / q.Q) (c % q.Q))[ch * (q.kh * q.kw) + t]? := by
 have inner : ∀ c, c < q.all.length -> ∀ ch, ch < q.C -> (((q.all.getD c []).drop (ch * (q.kh * q.kw))).take (q.kh * q.kw)).length = q.kh * q.kw := by
  intro c hc ch hch
  obtain ⟨_, h1, h2, h3⟩ := q.all_pos hc
  have : q.all.getD c [] = q.one (c / q.Q) (c % q.Q) := by simp [List.getD, h3]
  rw [this]
  simp only [List.length_take, List.length_drop, q.one_len]
  have : (ch + 1) * (q.kh * q.kw) <= q.C * (q.kh * q.kw) := Nat.mul_le_mul_right _ hch
  rw [Nat.succ_mul] at this
  omega
 have hlen : ∀ ch, ch < q.C -> ((q.all).flatMap fun x => (x.drop (ch * (q.kh * q.kw))).take (q.kh * q.kw)).length = q.all.length * (q.kh * q.kw) := by
  intro ch hch
  rw [flatMap_range _ _ []]
  exact flat_len _ _ _ (fun c hc => inner c hc ch hch)
 have e : (ch * q.all.length + c) * (q.kh * q.kw) + t = ch * (q.all.length * (q.kh * q.kw)) + (c * (q.kh * q.kw) + t) := by
  rw [Nat.add_mul, Nat.mul_assoc, Nat.add_assoc]
 have hlt : c * (q.kh * q.kw) + t < q.all.length * (q.kh * q.kw) := by
  have : (c + 1) * (q.kh * q.kw) <= q.all.length * (q.kh * q.kw) := Nat.mul_le_mul_right _ hc
  rw [Nat.succ_mul] at this
  omega
 unfold poolOf
 rw [e, flat_get _ _ _ ch _ hlen hch hlt, flatMap_range _ _ [], flat_get _ _ _ c t (fun c hc => inner c hc ch hch) hc ht]
 obtain ⟨_, h1, h2, h3⟩ := q.all_pos hc
 have : q.all.getD c [] = q.one (c / q.Q) (c % q.Q) := by simp [List.getD, h3]
 rw [this, List.getElem?_take_of_lt ht, List.getElem?_drop]
end Go.Proofs.YtoppijdedkdjeaaGreat

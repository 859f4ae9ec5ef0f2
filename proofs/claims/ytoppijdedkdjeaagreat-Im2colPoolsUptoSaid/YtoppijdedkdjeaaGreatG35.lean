/-
  Contracts of the functions that the statement reaches: EvY, PvC, PvD.
-/
import Derived.Test.YtoppijdedkdjeaaGreatG33
set_option linter.unusedVariables false
set_option linter.unusedSimpArgs false
set_option linter.constructorNameAsVariable false
set_option linter.deprecated false
set_option maxRecDepth 100000
set_option maxHeartbeats 3200000
namespace Go.Proofs.YtoppijdedkdjeaaGreat
open Go.RowKit
open Go.Lib (hid)
theorem getD_mem {x : List Rat} {k : Nat} (h : k < x.length) : x.getD k 0 ∈ x := by
 rw [List.getD_eq_getElem?_getD, List.getElem?_eq_getElem h]; exact List.getElem_mem _
theorem partL_drop {x : List Rat} {n : Nat} (h : x.length = n) : partL (x.map ratL) 1 (n - 1) = (x.drop 1).map ratL := by
 rw [partL_map]
 unfold partL
 rw [List.take_of_length_le (by rw [List.length_drop]; omega)]
theorem evTop {w : World} {a : Option Addr} {c n : Nat} {x : List Rat} (hX : RatsAt w a (x.map ratL)) (hl : x.length = n) (h1 : 1 <= n) (hnc : n <= c) (hn : n <= 1000000)
  (hx1 : ∀ q ∈ x, RatLe (ratL q) 1048575) (hs : ∀ k, k < n -> RatLe (ratL (pmax x k)) 1048575) :
  Calls Tryz.prog 67 #[.slice a n c] w (RetR w (ratL (maxL x))) := by
 obtain ⟨b, o, y, yn, yd, ycn, ycd, rfl, hbx, hyy, yc0, yc1, yc2, hyv⟩ := hX.pick (k := 0) (by rw [List.length_map]; omega)
 obtain ⟨hy1, hy2⟩ := map_get hyy
 obtain ⟨RR, hRR⟩ : ∃ RR, RR = ratL (maxL x) := ⟨_, rfl⟩
 rw [<- hRR]
 simp only [Nat.zero_mul, Nat.add_zero] at yc0 yc1 yc2
 have hB0 : Below w.heap.size w (w.alloc (zerO 37)) := (Below.refl _ _).alloc (Nat.le_refl _) _
 have HB0 := hid hB0
 have HN := hid (RNil.alloc w 37)
 have HTl : Hid (∀ W aT cT, Below w.heap.size w W -> RatsAt W aT ((x.drop 1).map ratL) -> Calls Tryz.prog 68 #[.agg #[.bool y.neg, .slice yn y.num.length ycn, .slice yd y.den.length ycd], .slice aT (n - 1) cT, .func (.func 69) #[] #[]] W (RetR W RR)) := fun W aT cT hb hT => by
  have h := evFoldMax (G := pmax x) (c := cT) (n := n - 1) (by rw [show pmax x 0 = x.getD 0 0 from rfl, <- hy2]; exact hyv.below hb) hT (by rw [List.length_drop]; omega) (by omega)
   (fun k hk => by rw [List.getD_eq_getElem?_getD, List.getElem?_drop, Nat.add_comm 1 k, <- List.getD_eq_getElem?_getD]; rfl) (fun k hk => hs k (by omega)) (fun q hq => hx1 q (List.mem_of_mem_drop hq))
  rw [hRR, show maxL x = pmax x (n - 1) by unfold maxL; rw [hl]]
  exact h
 have hXs : n - 1 = 0 ∨ RatsAt w (some ⟨b, o + 3, none⟩) ((x.drop 1).map ratL) := by
  have h := hX.sub (lo := 1) (n := n - 1) (by rw [List.length_map]; omega)
  rw [partL_drop hl] at h
  exact .inr (by simpa using h)
 have HXs := hid hXs
 have HL := hid hl
 have HCw : Hid (∀ W, Below w.heap.size w W -> W.cell? ⟨b, o, none⟩ = some (.bool y.neg) /\ W.cell? ⟨b, o + 1, none⟩ = some (.slice yn y.num.length ycn) /\ W.cell? ⟨b, o + 2, none⟩ = some (.slice yd y.den.length ycd)) := fun W hb =>
  ⟨(hb.cell hbx).trans yc0, (hb.cell hbx).trans yc1, (hb.cell hbx).trans yc2⟩
 clear hX hl hx1 hs hyy hy1 hy2 hRR hyv hXs yc0 yc1 yc2 hB0
 by_cases hc : c = 1
 ·obtain rfl : n = 1 := by omega
  subst hc
  go_enter Tryz.func67, Tryz.ntmps67
  go_upto_region 1 with fail
  generalize w.alloc (zerO 37) = W0 at *
  have HCe : Hid (∀ W, Below W0.heap.size W0 W -> W.cell? ⟨b, o, none⟩ = some (.bool y.neg) /\ W.cell? ⟨b, o + 1, none⟩ = some (.slice yn y.num.length ycn) /\ W.cell? ⟨b, o + 2, none⟩ = some (.slice yd y.den.length ycd)) := fun W hb => HCw.out W (HB0.out.trans (hb.mono HB0.out.size))
  have HFo : Hid (∀ W, Below W0.heap.size W0 W -> Calls Tryz.prog 68 #[.agg #[.bool y.neg, .slice yn y.num.length ycn, .slice yd y.den.length ycd], .slice (some ⟨b, o, none⟩) 0 0, .func (.func 69) #[] #[]] W (RetR W RR)) := fun W hb =>
   HTl.out W _ _ (HB0.out.trans (hb.mono HB0.out.size)) (by rw [List.drop_of_length_le (by rw [HL.out]; exact Nat.le_refl _)]; exact ⟨by simp, .inl rfl⟩)
  refine wp_region_slots_tail 6 (by kernel_rfl) (by kernel_rfl) (by kernel_rfl) (by kernel_rfl) (by decide) (From W0.heap.size W0) (fun w w' => Below w.heap.size w w') (GR [.val (.slice (some ⟨b, o, none⟩) 1 1), .val (.pointer (some ⟨b, o, none⟩)), .val (.agg #[.bool y.neg, .slice yn y.num.length ycn, .slice yd y.den.length ycd]), .val (.slice (some ⟨b, o, none⟩) 1 1), .val (.slice (some ⟨b, o, none⟩) 0 0), .rat RR]) (fun i v w w' h hb => GR_below h hb) (From.start (Nat.le_refl _)) ?_ ?_
  ·intro ops
   simp only [List.take_succ_cons, List.take_zero, Shows]
   refine ⟨?_, ?_, ?_, ?_, ?_, ?_, trivial⟩
   all_goals (intro g W hR hL; have hB := hR.base; obtain ⟨yc0, yc1, yc2⟩ := HCe.out W hR.be; simp only [Laid, Region.binds, forall_const, Bool.false_eq_true, false_implies, GR, List.getElem?_cons_zero, List.getElem?_cons_succ] at hL; simp [fillFrom, Act.put])
   ·clear hL
    have HR := hid hR
    clear hR
    go_wp2
    first | exact ⟨_, rfl, HR.out, Below.refl _ _, rfl⟩ | exact ⟨HR.out, Below.refl _ _, rfl⟩
   ·generalize g 0 = y0 at hL ⊢
    obtain ⟨rfl, _⟩ := hL
    have HR := hid hR
    clear hR
    go_wp2
    first | exact ⟨_, rfl, HR.out, Below.refl _ _, rfl⟩ | exact ⟨HR.out, Below.refl _ _, rfl⟩
   ·generalize g 1 = y1 at hL ⊢
    obtain ⟨rfl, _⟩ := hL
    have HR := hid hR
    clear hR
    go_wp2
    first | exact ⟨_, rfl, HR.out, Below.refl _ _, rfl⟩ | exact ⟨HR.out, Below.refl _ _, rfl⟩
   ·clear hL
    have HR := hid hR
    clear hR
    go_wp2
    first | exact ⟨_, rfl, HR.out, Below.refl _ _, rfl⟩ | exact ⟨HR.out, Below.refl _ _, rfl⟩
   ·generalize g 3 = y3 at hL ⊢
    obtain ⟨rfl, _⟩ := hL
    have HR := hid hR
    clear hR
    go_wp2
    first | exact ⟨_, rfl, HR.out, Below.refl _ _, rfl⟩ | exact ⟨HR.out, Below.refl _ _, rfl⟩
   ·generalize g 2 = y2 at hL ⊢
    generalize g 4 = y4 at hL ⊢
    obtain ⟨rfl, rfl, _⟩ := hL
    have HR := hid hR
    clear hR
    have HCt := hid (HFo.out W HR.out.be)
    go_wp2_with fail
    refine HCt.out.mono ?_
    rintro e w1 ⟨v1, rfl, kv, kb⟩
    have KV := hid kv
    have KB := hid kb
    clear kv kb HCt
    go_wp2
    first | exact ⟨_, rfl, ⟨Nat.le_trans HR.out.base KB.out.size, HR.out.be.trans (KB.out.mono HR.out.base)⟩, KB.out, KV.out⟩ | exact ⟨⟨Nat.le_trans HR.out.base KB.out.size, HR.out.be.trans (KB.out.mono HR.out.base)⟩, KB.out, KV.out⟩
  ·intro ops g W hR hL
   have hB := hR.base
   have J5 := hL.2
   simp only [GR, List.getElem?_cons_zero, List.getElem?_cons_succ] at J5
   obtain ⟨yc0, yc1, yc2⟩ := HCe.out W hR.be
   clear hL
   simp only [List.take_succ_cons, List.take_zero, List.drop_succ_cons, List.drop_zero]
   simp [fillFrom, Act.put]
   generalize g 5 = y5 at J5 ⊢
   have HR := hid hR
   clear hR
   obtain ⟨bn', bd', dn', dd', rfl, g2, g3, g4, g5⟩ := J5.ex
   have HBe := hid (show Below W0.heap.size W0 W from HR.out.be)
   obtain ⟨hS, hV⟩ := (HN.out.below HBe.out).put g2 g3 g4 g5
   obtain ⟨z0, z1, z2, zf, zlt⟩ := (HN.out.below HBe.out).c
   have HS := hid hS
   have HV := hid hV
   have HBl := hid (below_store3 (HB0.out.trans (HBe.out.mono HB0.out.size)) (Nat.le_refl _) (.bool RR.neg) (.slice bn' RR.num.length dn') (.slice bd' RR.den.length dd'))
   clear g4 g5 J5 hS hV
   go_wp2
   obtain ⟨u0, u1, u2, uf, ult⟩ := HS.out
   have hNP : RetR w RR (.returned (.agg #[.bool RR.neg, .slice bn' RR.num.length dn', .slice bd' RR.den.length dd'])) (((W.setCell ⟨w.heap.size, 0, none⟩ (.bool RR.neg)).setCell ⟨w.heap.size, 1, none⟩ (.slice bn' RR.num.length dn')).setCell ⟨w.heap.size, 2, none⟩ (.slice bd' RR.den.length dd')) := ⟨_, rfl, HV.out, HBl.out⟩
   generalize ((W.setCell ⟨w.heap.size, 0, none⟩ (.bool RR.neg)).setCell ⟨w.heap.size, 1, none⟩ (.slice bn' RR.num.length dn')).setCell ⟨w.heap.size, 2, none⟩ (.slice bd' RR.den.length dd') = Y at *
   exact bodyPost_ret (v := .agg #[.bool RR.neg, .slice bn' RR.num.length dn', .slice bd' RR.den.length dd']) (by simp [results, Tryz.results67, go_sem, u0, u1, u2]) rfl hNP
 ·have hc1 : 1 < c := by omega
  go_enter Tryz.func67, Tryz.ntmps67
  go_upto_region 1 with fail
  generalize w.alloc (zerO 37) = W0 at *
  have HCe : Hid (∀ W, Below W0.heap.size W0 W -> W.cell? ⟨b, o, none⟩ = some (.bool y.neg) /\ W.cell? ⟨b, o + 1, none⟩ = some (.slice yn y.num.length ycn) /\ W.cell? ⟨b, o + 2, none⟩ = some (.slice yd y.den.length ycd)) := fun W hb => HCw.out W (HB0.out.trans (hb.mono HB0.out.size))
  have HFo : Hid (∀ W, Below W0.heap.size W0 W -> Calls Tryz.prog 68 #[.agg #[.bool y.neg, .slice yn y.num.length ycn, .slice yd y.den.length ycd], .slice (some ⟨b, o + 3, none⟩) (n - 1) (c - 1), .func (.func 69) #[] #[]] W (RetR W RR)) := fun W hb => by
   have hb2 := HB0.out.trans (hb.mono HB0.out.size)
   rcases HXs.out with h0 | h
   ·exact HTl.out W _ _ hb2 (by rw [List.drop_of_length_le (by rw [HL.out]; omega)]; exact ⟨by simp, .inl rfl⟩)
   ·exact HTl.out W _ _ hb2 (h.below hb2)
  refine wp_region_slots_tail 6 (by kernel_rfl) (by kernel_rfl) (by kernel_rfl) (by kernel_rfl) (by decide) (From W0.heap.size W0) (fun w w' => Below w.heap.size w w') (GR [.val (.slice (some ⟨b, o, none⟩) n c), .val (.pointer (some ⟨b, o, none⟩)), .val (.agg #[.bool y.neg, .slice yn y.num.length ycn, .slice yd y.den.length ycd]), .val (.slice (some ⟨b, o, none⟩) n c), .val (.slice (some ⟨b, o + 3, none⟩) (n - 1) (c - 1)), .rat RR]) (fun i v w w' h hb => GR_below h hb) (From.start (Nat.le_refl _)) ?_ ?_
  ·intro ops
   simp only [List.take_succ_cons, List.take_zero, Shows]
   refine ⟨?_, ?_, ?_, ?_, ?_, ?_, trivial⟩
   all_goals (intro g W hR hL; have hB := hR.base; obtain ⟨yc0, yc1, yc2⟩ := HCe.out W hR.be; simp only [Laid, Region.binds, forall_const, Bool.false_eq_true, false_implies, GR, List.getElem?_cons_zero, List.getElem?_cons_succ] at hL; simp [fillFrom, Act.put])
   ·clear hL
    have HR := hid hR
    clear hR
    go_wp2
    first | exact ⟨_, rfl, HR.out, Below.refl _ _, rfl⟩ | exact ⟨HR.out, Below.refl _ _, rfl⟩
   ·generalize g 0 = y0 at hL ⊢
    obtain ⟨rfl, _⟩ := hL
    have HR := hid hR
    clear hR
    go_wp2
    first | exact ⟨_, rfl, HR.out, Below.refl _ _, rfl⟩ | exact ⟨HR.out, Below.refl _ _, rfl⟩
   ·generalize g 1 = y1 at hL ⊢
    obtain ⟨rfl, _⟩ := hL
    have HR := hid hR
    clear hR
    go_wp2
    first | exact ⟨_, rfl, HR.out, Below.refl _ _, rfl⟩ | exact ⟨HR.out, Below.refl _ _, rfl⟩
   ·clear hL
    have HR := hid hR
    clear hR
    go_wp2
    first | exact ⟨_, rfl, HR.out, Below.refl _ _, rfl⟩ | exact ⟨HR.out, Below.refl _ _, rfl⟩
   ·generalize g 3 = y3 at hL ⊢
    obtain ⟨rfl, _⟩ := hL
    have HR := hid hR
    clear hR
    go_wp2
    first | exact ⟨_, rfl, HR.out, Below.refl _ _, rfl⟩ | exact ⟨HR.out, Below.refl _ _, rfl⟩
   ·generalize g 2 = y2 at hL ⊢
    generalize g 4 = y4 at hL ⊢
    obtain ⟨rfl, rfl, _⟩ := hL
    have HR := hid hR
    clear hR
    have HCt := hid (HFo.out W HR.out.be)
    go_wp2_with fail
    refine HCt.out.mono ?_
    rintro e w1 ⟨v1, rfl, kv, kb⟩
    have KV := hid kv
    have KB := hid kb
    clear kv kb HCt
    go_wp2
    first | exact ⟨_, rfl, ⟨Nat.le_trans HR.out.base KB.out.size, HR.out.be.trans (KB.out.mono HR.out.base)⟩, KB.out, KV.out⟩ | exact ⟨⟨Nat.le_trans HR.out.base KB.out.size, HR.out.be.trans (KB.out.mono HR.out.base)⟩, KB.out, KV.out⟩
  ·intro ops g W hR hL
   have hB := hR.base
   have J5 := hL.2
   simp only [GR, List.getElem?_cons_zero, List.getElem?_cons_succ] at J5
   obtain ⟨yc0, yc1, yc2⟩ := HCe.out W hR.be
   clear hL
   simp only [List.take_succ_cons, List.take_zero, List.drop_succ_cons, List.drop_zero]
   simp [fillFrom, Act.put]
   generalize g 5 = y5 at J5 ⊢
   have HR := hid hR
   clear hR
   obtain ⟨bn', bd', dn', dd', rfl, g2, g3, g4, g5⟩ := J5.ex
   have HBe := hid (show Below W0.heap.size W0 W from HR.out.be)
   obtain ⟨hS, hV⟩ := (HN.out.below HBe.out).put g2 g3 g4 g5
   obtain ⟨z0, z1, z2, zf, zlt⟩ := (HN.out.below HBe.out).c
   have HS := hid hS
   have HV := hid hV
   have HBl := hid (below_store3 (HB0.out.trans (HBe.out.mono HB0.out.size)) (Nat.le_refl _) (.bool RR.neg) (.slice bn' RR.num.length dn') (.slice bd' RR.den.length dd'))
   clear g4 g5 J5 hS hV
   go_wp2
   obtain ⟨u0, u1, u2, uf, ult⟩ := HS.out
   have hNP : RetR w RR (.returned (.agg #[.bool RR.neg, .slice bn' RR.num.length dn', .slice bd' RR.den.length dd'])) (((W.setCell ⟨w.heap.size, 0, none⟩ (.bool RR.neg)).setCell ⟨w.heap.size, 1, none⟩ (.slice bn' RR.num.length dn')).setCell ⟨w.heap.size, 2, none⟩ (.slice bd' RR.den.length dd')) := ⟨_, rfl, HV.out, HBl.out⟩
   generalize ((W.setCell ⟨w.heap.size, 0, none⟩ (.bool RR.neg)).setCell ⟨w.heap.size, 1, none⟩ (.slice bn' RR.num.length dn')).setCell ⟨w.heap.size, 2, none⟩ (.slice bd' RR.den.length dd') = Y at *
   exact bodyPost_ret (v := .agg #[.bool RR.neg, .slice bn' RR.num.length dn', .slice bd' RR.den.length dd']) (by simp [results, Tryz.results67, go_sem, u0, u1, u2]) rfl hNP
def paddF (x : List Rat) (k : Nat) : Rat := match k with | 0 => 0 | k + 1 => padd x k
theorem paddF_succ (x : List Rat) (k : Nat) : paddF x (k + 1) = paddF x k + x.getD k 0 := by
 cases k with
 | zero => show padd x 0 = 0 + _; rw [Rat.zero_add]; rfl
 | succ k => rfl
theorem evAvg {w : World} {a : Option Addr} {c n : Nat} {x : List Rat} (hX : RatsAt w a (x.map ratL)) (hl : x.length = n) (h1 : 1 <= n) (hn : n <= 1000000)
  (hx1 : ∀ q ∈ x, RatLe (ratL q) 1048575) (hs : ∀ k, k < n -> RatLe (ratL (padd x k)) 1048575) :
  Calls Tryz.prog 71 #[.slice a n c] w (RetR w (ratL (avgL x))) := by
 have hB0 : Below w.heap.size w (w.alloc (zerO 37)) := (Below.refl _ _).alloc (Nat.le_refl _) _
 have hz : RatV (w.alloc (zerO 37)) (.agg #[.bool false, .slice none 0 0, .slice none 0 0]) (ratL (paddF x 0)) := by
  show RatV _ _ (ratL 0)
  rw [ratL_zeroE]
  exact ⟨none, none, 0, 0, rfl, Nat.le_refl _, Nat.le_refl _, U32s.nil _ _, U32s.nil _ _⟩
 have hp : ∀ k, k <= n -> RatLe (ratL (paddF x k)) 1048575 := by
  intro k hk
  cases k with
  | zero => exact (show RatLe (ratL 0) 524285 from ratLe_zero).mono (by omega)
  | succ k => exact hs k (by omega)
 have HF := hid (evFoldAdd (c := c) hz (hX.below hB0) hl hn (fun k _ => paddF_succ x k) (fun k hk => hp k (by omega)) hx1)
 have HB0 := hid hB0
 have HN := hid (RNil.alloc w 37)
 obtain ⟨s, hs0⟩ : ∃ s, s = ratL (paddF x n) := ⟨_, rfl⟩
 obtain ⟨RR, hRR⟩ : ∃ RR, RR = ratL (avgL x) := ⟨_, rfl⟩
 obtain ⟨nR, hnR⟩ : ∃ nR, nR = ratL (((n : Nat) : Int) : Rat) := ⟨_, rfl⟩
 have hne : ratOf nR ≠ 0 := by
  rw [hnR, ratOf_ratL, <- Rat.intCast_zero]
  intro h
  rw [Rat.intCast_inj] at h
  omega
 have hnl : RatLe nR 1048575 := by
  rw [hnR, ratL_int]
  exact ⟨Nat.le_trans (limbs_len64 (by rw [Int.natAbs_natCast]; omega)) (by omega), by simp⟩
 have hq : ratL (ratOf s / ratOf nR) = RR := by
  rw [hRR, hs0, hnR, ratOf_ratL, ratOf_ratL]
  congr 1
  unfold avgL
  rw [hl]
  obtain ⟨m, rfl⟩ : ∃ m, n = m + 1 := ⟨n - 1, by omega⟩
  rfl
 have HD : Hid (∀ W v u, RatV W v s -> RatV W u nR -> Calls Tryz.prog 107 #[v, u] W (RetRE W RR 0)) := fun W v u hv hu => by
  have h := rDiv hv hu (by rw [hs0]; exact hp n (Nat.le_refl _)) hnl hne
  rw [hq] at h
  exact h
 have HO : Hid (∀ W, Calls Tryz.prog 108 #[.int .i64 (n : Int)] W (RetR W nR)) := fun W => by rw [hnR]; exact rOf W _ (by omega) (by omega)
 rw [<- hs0] at HF
 rw [<- hRR]
 clear hX hl hx1 hs hp hz hB0 hs0 hRR hnR hne hnl hq
 go_enter Tryz.func71, Tryz.ntmps71
 go_upto_region 1 with fail
 generalize w.alloc (zerO 37) = W0 at *
 go_wp2_with fail
 refine HF.out.mono ?_
 rintro e w1 ⟨v1, rfl, kv, kb⟩
 have HB1 := hid (HB0.out.trans (kb.mono HB0.out.size))
 have HN1 := hid (HN.out.below kb)
 have HV1 := hid kv
 clear kv kb HF HB0 HN
 go_wp2_with fail
 refine (HO.out w1).mono ?_
 rintro e w2 ⟨v2, rfl, kv, kb⟩
 have HB2 := hid (HB1.out.trans (kb.mono HB1.out.size))
 have HN2 := hid (HN1.out.below kb)
 have HC := hid (HD.out w2 v1 v2 (HV1.out.below kb) kv)
 clear kv kb HB1 HN1 HV1
 go_wp2_with fail
 refine HC.out.mono ?_
 rintro e w3 ⟨v3, rfl, kv, kb⟩
 obtain ⟨bn', bd', dn', dd', rfl, g2, g3, g4, g5⟩ := kv.ex
 have hal : Below w3.heap.size w3 (w3.alloc (ratO RR bn' dn' bd' dd' 37)) := (Below.refl _ _).alloc (Nat.le_refl _) _
 have HB3 := hid ((HB2.out.trans (kb.mono HB2.out.size)).trans (hal.mono (HB2.out.trans (kb.mono HB2.out.size)).size))
 have HN3 := hid ((HN2.out.below kb).below hal)
 have HBx := hid (Box3.alloc w3 (.bool RR.neg) (.slice bn' RR.num.length dn') (.slice bd' RR.den.length dd') 37)
 have HU := hid (And.intro (g4.below hal) (g5.below hal))
 clear g4 g5 kv kb hal HB2 HN2 HC
 go_upto_region 2 with fail
 generalize w3.alloc (ratO RR bn' dn' bd' dd' 37) = W at *
 obtain ⟨hS, hV⟩ := HN3.out.put g2 g3 HU.out.1 HU.out.2
 obtain ⟨z0, z1, z2, zf, zlt⟩ := HN3.out.c
 obtain ⟨x0, x1, x2, _, xlt⟩ := HBx.out
 have HS := hid hS
 have HV := hid hV
 have HBl := hid (below_store3 HB3.out (Nat.le_refl _) (.bool RR.neg) (.slice bn' RR.num.length dn') (.slice bd' RR.den.length dd'))
 clear hS hV
 go_wp2
 obtain ⟨u0, u1, u2, uf, ult⟩ := HS.out
 have hNP : RetR w RR (.returned (.agg #[.bool RR.neg, .slice bn' RR.num.length dn', .slice bd' RR.den.length dd'])) (((W.setCell ⟨w.heap.size, 0, none⟩ (.bool RR.neg)).setCell ⟨w.heap.size, 1, none⟩ (.slice bn' RR.num.length dn')).setCell ⟨w.heap.size, 2, none⟩ (.slice bd' RR.den.length dd')) := ⟨_, rfl, HV.out, HBl.out⟩
 generalize ((W.setCell ⟨w.heap.size, 0, none⟩ (.bool RR.neg)).setCell ⟨w.heap.size, 1, none⟩ (.slice bn' RR.num.length dn')).setCell ⟨w.heap.size, 2, none⟩ (.slice bd' RR.den.length dd') = Y at *
 exact bodyPost_ret (v := .agg #[.bool RR.neg, .slice bn' RR.num.length dn', .slice bd' RR.den.length dd']) (by simp [results, Tryz.results71, go_sem, u0, u1, u2]) rfl hNP
theorem evPoolMax {w : World} {S : StepV} {x : List Rat} {sh : List Int} {win : List (List Int)} {n T C KH KW : Nat} {F : Nat -> Prop} (h3 : x.length = S.nx) (h4 : sh.length = S.nS)
  (hX : RatsAt w S.ax (x.map ratL)) (hS : Ints w F S.aS sh) (hkh : S.kh = (KH : Int)) (hkw : S.kw = (KW : Int)) (hn : n = KH * KW) (hC : sh[0]? = some (C : Int))
  (hwin : (windowsL sh S.kh S.kw S.st S.pd).1 = win) (hT : T = win.length) (hlen : ∀ ix ∈ win, ix.length = C * n) (hix : ∀ ix ∈ win, ∀ i ∈ ix, 0 <= i /\ i < x.length)
  (hNx : S.nx <= 1000000) (hn1 : 1 <= n) (hn2 : n <= 1000000) (hT2 : T <= 1000000) (hCn : C * n <= 1000000) (hCT : C * T <= 1000000)
  (hx1 : ∀ q ∈ x, RatLe (ratL q) 1048575) (hs : ∀ ch, ch < C -> ∀ ix ∈ win, ∀ k, k < n -> RatLe (ratL (pmax (valsQ (partL ix (ch * n) n) x) k)) 1048575) :
  Calls Tryz.prog 66 #[S.val, .func (.func 67) #[] #[]] w (RowRet w ((flatQ (poolAt maxL n win x) T C 0).map ratL)) := by
 have HX := hid hX
 have H3 := hid h3
 have Hx1 := hid hx1
 have Hs := hid hs
 have HT := hid hT
 have HLen := hid hlen
 have HIx := hid hix
 have HCT := hid hCT
 have HCn := hid hCn
 have hsl : 0 < sh.length := (List.getElem?_eq_some_iff.1 hC).1
 obtain ⟨bS, oS, d0, haS, sc, hd0, _, hbS, _, _, _⟩ := hS.pick2 hsl
 rw [hC] at hd0
 cases hd0
 have hC2 : C <= 1000000 := by
  have := Nat.le_mul_of_pos_right C (show 0 < n by omega)
  omega
 have HSB := hid (SBox.alloc w S 70)
 have hB1 := ((Below.refl w.heap.size w).alloc (Nat.le_refl _) (.cells S.cells 70))
 have HWn := evWindows h4 (hS.below hB1)
 rw [hwin] at HWn
 have HWn := hid HWn
 have HB1 := hid hB1
 have sc := (hB1.cell (p := ⟨bS, oS, none⟩) hbS).trans sc
 have m1 : IntKind.i64.wrap ((KH : Int) * (KW : Int)) = (n : Int) := by rw [<- Int.natCast_mul, <- hn]; exact IntWalk.i64_in _ (by omega)
 have Hkh := hid hkh
 have Hkw := hid hkw
 have HaS := hid haS
 have hns : 0 < S.nS := by rw [<- h4]; exact hsl
 clear hX hx1 hs h3 h4 hS hB1 hwin hT hlen hix hCT hCn hkh hkw haS hn hC
 unfold StepV.val at HWn ⊢
 unfold StepV.cells at HSB HB1 HWn sc
 go_enter Tryz.func66, Tryz.ntmps66
 go_upto_region 1 with fail
 generalize w.alloc (.cells (stC S) 70) = W1 at *
 obtain ⟨f0, f1, f2, f3, f4, f5, f6, f7, f8, f9, f10, f11, f12, ff, lt⟩ := HSB.out
 go_wp2_with fail
 refine HWn.out.mono ?_
 rintro e Wx ⟨aw, cw, rfl, hI, hb⟩
 rw [<- HT.out]
 have HI := hid hI
 have HSx := hid (HSB.out.below hb)
 have HBx := hid (HB1.out.trans (hb.mono HB1.out.size))
 have sc := (hb.cell (p := ⟨bS, oS, none⟩) (Nat.lt_of_lt_of_le hbS HB1.out.size)).trans sc
 have hbS2 := Nat.lt_of_lt_of_le hbS HBx.out.size
 clear hI hb HWn HB1 HSB f0 f1 f2 f3 f4 f5 f6 f7 f8 f9 f10 f11 f12 ff lt
 have f3 := HSx.out.f3
 have f4 := HSx.out.f4
 have f9 := HSx.out.f9
 have slt := HSx.out.lt
 rw [Hkh.out] at f3
 rw [Hkw.out] at f4
 rw [HaS.out] at f9
 go_wp2
 clear f3 f4 f9 sc
 go_loopw [5, 24] (fun v i wr => ∃ (k m : Nat) (a : Option Addr) (c : Nat), k <= C /\ Hid (m = k * T) /\ v = .slice a m c /\ i = .int .i64 (k : Int) /\ Hid (OutI Wx wr (.slice a m c) ((flatQ (poolAt maxL n win x) T k 0).map ratL))) (fun _ i _ => C - (intOf i).toNat)
 case atStart => exact ⟨0, 0, none, 0, Nat.zero_le _, by unfold Hid; omega, rfl, rfl, OutI.start Wx⟩
 case round =>
  obtain ⟨k, m, b0, k0, hk, HM, rfl, rfl, HOut⟩ := hrel
  by_cases hlt : k < C
  ·go_wp2
   go_loopw [5, 29] (fun v j wr => ∃ (i m : Nat) (a : Option Addr) (c : Nat), i <= T /\ Hid (m = k * T + i) /\ v = .slice a m c /\ j = .int .i64 (i : Int) /\ Hid (OutI Wx wr (.slice a m c) ((flatQ (poolAt maxL n win x) T k i).map ratL))) (fun _ j _ => T - (intOf j).toNat)
   case atStart => exact ⟨0, m, b0, k0, Nat.zero_le _, HM.out, rfl, rfl, HOut.out⟩
   case round =>
    clear HM HOut
    obtain ⟨i, m, b0, k0, hi0, HM, rfl, rfl, HOut⟩ := hrel
    by_cases hi : i < T
    ·obtain ⟨p0, hp0⟩ : ∃ p0, p0 = k * n := ⟨_, rfl⟩
     obtain ⟨p1, hp1⟩ : ∃ p1, p1 = (k + 1) * n := ⟨_, rfl⟩
     have hmul : p1 <= C * n := by rw [hp1]; exact Nat.mul_le_mul_right _ hlt
     have hp01 : p1 = p0 + n := by rw [hp1, hp0, Nat.succ_mul]
     have hcn := HCn.out
     have h10 : p1 - p0 = n := by omega
     have hmT : m + 1 <= 1000000 := by
      have h1 : (k + 1) * T <= C * T := Nat.mul_le_mul_right _ hlt
      have h2 := HCT.out
      have h3 := HM.out
      rw [Nat.succ_mul] at h1
      omega
     obtain ⟨bt, ot, l, ai, ci, haw', tc0, hl, hlc, hIl, hbt, _⟩ := HI.out.pickc (k := i) (by have := HT.out; omega)
     have hmem := List.mem_of_getElem? hl
     obtain ⟨ln, hln⟩ : ∃ ln, ln = l.length := ⟨_, rfl⟩
     have hln2 : p1 <= ln := by rw [hln, HLen.out l hmem]; exact hmul
     have hln3 : ln <= 1000000 := by rw [hln, HLen.out l hmem]; exact hcn
     have hp0l : p0 < ln := by omega
     have hp01l : p0 <= p1 := by omega
     rw [<- hln] at tc0 hlc
     have tc0 := (HOut.out.bl.cell (p := ⟨bt, ot + i, none⟩) hbt).trans tc0
     have hbt2 := Nat.lt_of_lt_of_le hbt HOut.out.bl.size
     have hIl2 := hIl.below HOut.out.bl
     obtain ⟨bi, oi, _, hai, _, _, _, _, _, _, _⟩ := hIl2.pick2 (k := 0) (by omega)
     rw [hai] at hIl2
     obtain ⟨hsl2, hsub⟩ := hIl2.sub (lo := p0) (n := n) (by omega)
     have hmx : ∀ j ∈ partL l p0 n, 0 <= j /\ j < x.length := fun j hj => HIx.out l hmem j (partL_mem hj)
     have hbr := HBx.out.trans (HOut.out.bl.mono HBx.out.size)
     have HFo := hid (evFoldI (n := n) (ci := ci - p0) (HSx.out.below HOut.out.bl) (HX.out.below hbr) H3.out hNx hsub hsl2 hn2 hmx)
     obtain ⟨s1, hs1⟩ : ∃ s1, s1 = ratL (poolAt maxL n win x k i) := ⟨_, rfl⟩
     have e1 : maxL (valsQ (partL l p0 n) x) = poolAt maxL n win x k i := by
      unfold poolAt
      rw [List.getD_eq_getElem?_getD, hl, <- hp0]
      rfl
     have hvm : ∀ q ∈ valsQ (partL l p0 n) x, RatLe (ratL q) 1048575 := by
      intro q hq
      obtain ⟨j, hj, rfl⟩ := List.mem_map.1 hq
      have := hmx j hj
      exact Hx1.out _ (getD_mem (by omega))
     have hpm : ∀ q, q < n -> RatLe (ratL (pmax (valsQ (partL l p0 n) x) q)) 1048575 := fun q hq => by rw [hp0]; exact Hs.out k hlt l hmem q hq
     have hRl : (valsQ (partL l p0 n) x).length = n := by rw [valsQ_len]; exact hsl2
     have HPf : Hid (∀ (W : World) (aR : Option Addr) (cR : Nat), RatsAt W aR ((valsQ (partL l p0 n) x).map ratL) -> n <= cR -> Calls Tryz.prog 67 #[.slice aR n cR] W (RetR W s1)) := fun W aR cR hR hcR => by
      have h := evTop (c := cR) (n := n) (hR.below (Below.refl _ _)) hRl hn1 hcR hn2 hvm hpm
      rw [e1, <- hs1] at h
      exact h
     have HStep : Hid _ := flatQ_succ (poolAt maxL n win x) T k i
     rw [<- hs1] at HStep
     have HLf := hid ((flatQ_len (poolAt maxL n win x) T k i).trans HM.out.symm)
     have HM1 : Hid (m + 1 = k * T + (i + 1)) := by have := HM.out; unfold Hid; omega
     have m0 : IntKind.i64.wrap ((k : Int) * (n : Int)) = (p0 : Int) := by
      rw [<- Int.natCast_mul, <- hp0]; exact IntWalk.i64_in _ (by omega)
     have HM2 : Hid (IntKind.i64.wrap (((k : Int) + 1) * (n : Int)) = (p1 : Int)) := by
      have e : ((k : Int) + 1) * (n : Int) = (p1 : Int) := by rw [hp1]; simp
      unfold Hid
      rw [e]; exact IntWalk.i64_in _ (by omega)
     have HRl : Hid (((valsQ (partL l p0 n) x).map ratL).length = n) := by unfold Hid; rw [List.length_map]; exact hRl
     obtain ⟨vv, hvv⟩ : ∃ vv, vv = (valsQ (partL l p0 n) x).map ratL := ⟨_, rfl⟩
     rw [show (valsQ (List.take n (List.drop p0 l)) x).map ratL = vv from hvv.symm] at HFo
     rw [<- hvv] at HPf HRl
     subst haw' hai
     clear hl hmem hln hIl hIl2 hsl2 hsub hmx hbr hs1 e1 hvm hpm hRl hvv hp0 hp1
     have m2 : IntKind.i64.wrap (((k : Int) + 1) * (n : Int)) = (p1 : Int) := HM2.out
     go_wp2_with fail
     clear m2 m0
     refine HFo.out.mono ?_
     rintro e w1 ⟨aR, cR, rfl, hcR, hR, hb1⟩
     rw [HRl.out] at hcR ⊢
     have HC := hid (HPf.out w1 aR cR hR hcR)
     have HO1 := hid (HOut.out.below hb1)
     clear hR hb1 HFo HPf tc0
     go_wp2_with fail
     refine HC.out.mono ?_
     rintro e w2 ⟨v1, rfl, kv, kb⟩
     obtain ⟨bn', bd', dn', dd', rfl, g2, g3, g4, g5⟩ := kv.ex
     have hal : Below w2.heap.size w2 (w2.alloc (ratO s1 bn' dn' bd' dd' 37)) := (Below.refl _ _).alloc (Nat.le_refl _) _
     have HRow := hid (Row1.alloc g2 g3 g4 g5 37)
     have HO2 := hid ((HO1.out.below kb).below hal)
     clear kv kb g4 g5 hal HC
     go_wp2_with (at_builtin; refine wpList_appR rfl (.tmp 33) (.tmp 47) 26 rfl Wx.heap.size Tryz.underlying26 Tryz.infoRat (.slice b0 m k0) m _ HLf.out rfl HO2.out.own _ s1 HRow.out rfl (by omega) HO2.out.bl.size ?_; intro b3 k3 w3 hown hk3 hg hbe; have HOut3 := hid (show OutI Wx w3 (.slice b3 (m + 1) k3) ((flatQ (poolAt maxL n win x) T k (i + 1)).map ratL) from ⟨by rw [HStep.out]; exact hown, HO2.out.bl.trans hbe⟩); clear hown hg hbe)
     go_roundw
     case rel => exact ⟨i + 1, m + 1, b3, k3, hi, HM1.out, rfl, by go_num, HOut3.out⟩
     case measure => simp [intOf]; omega
    ·obtain rfl : i = T := by omega
     have HOn : Hid (OutI Wx wr (.slice b0 m k0) ((flatQ (poolAt maxL n win x) i (k + 1) 0).map ratL)) := by unfold Hid; rw [<- flatQ_next]; exact HOut.out
     have HM1 : Hid (m = (k + 1) * i) := by have := HM.out; unfold Hid; rw [Nat.succ_mul]; omega
     go_wp2
     go_roundw
     case rel => exact ⟨k + 1, m, b0, k0, hlt, HM1.out, rfl, by go_num, HOn.out⟩
     case measure => simp [intOf]; omega
  ·obtain rfl : k = C := by omega
   go_wp2
   have hNP : RowRet w ((flatQ (poolAt maxL n win x) T k 0).map ratL) (.returned (.slice b0 m k0)) wr := HOut.out.ret ((flatQ_len _ _ _ _).trans HM.out.symm) (by have := HCT.out; have := HM.out; omega) HBx.out
   exact bodyPost_ret (v := .slice b0 m k0) (by simp [results, Tryz.results66, go_sem]) rfl hNP
theorem evPoolAvg {w : World} {S : StepV} {x : List Rat} {sh : List Int} {win : List (List Int)} {n T C KH KW : Nat} {F : Nat -> Prop} (h3 : x.length = S.nx) (h4 : sh.length = S.nS)
  (hX : RatsAt w S.ax (x.map ratL)) (hS : Ints w F S.aS sh) (hkh : S.kh = (KH : Int)) (hkw : S.kw = (KW : Int)) (hn : n = KH * KW) (hC : sh[0]? = some (C : Int))
  (hwin : (windowsL sh S.kh S.kw S.st S.pd).1 = win) (hT : T = win.length) (hlen : ∀ ix ∈ win, ix.length = C * n) (hix : ∀ ix ∈ win, ∀ i ∈ ix, 0 <= i /\ i < x.length)
  (hNx : S.nx <= 1000000) (hn1 : 1 <= n) (hn2 : n <= 1000000) (hT2 : T <= 1000000) (hCn : C * n <= 1000000) (hCT : C * T <= 1000000)
  (hx1 : ∀ q ∈ x, RatLe (ratL q) 1048575) (hs : ∀ ch, ch < C -> ∀ ix ∈ win, ∀ k, k < n -> RatLe (ratL (padd (valsQ (partL ix (ch * n) n) x) k)) 1048575) :
  Calls Tryz.prog 66 #[S.val, .func (.func 71) #[] #[]] w (RowRet w ((flatQ (poolAt avgL n win x) T C 0).map ratL)) := by
 have HX := hid hX
 have H3 := hid h3
 have Hx1 := hid hx1
 have Hs := hid hs
 have HT := hid hT
 have HLen := hid hlen
 have HIx := hid hix
 have HCT := hid hCT
 have HCn := hid hCn
 have hsl : 0 < sh.length := (List.getElem?_eq_some_iff.1 hC).1
 obtain ⟨bS, oS, d0, haS, sc, hd0, _, hbS, _, _, _⟩ := hS.pick2 hsl
 rw [hC] at hd0
 cases hd0
 have hC2 : C <= 1000000 := by
  have := Nat.le_mul_of_pos_right C (show 0 < n by omega)
  omega
 have HSB := hid (SBox.alloc w S 70)
 have hB1 := ((Below.refl w.heap.size w).alloc (Nat.le_refl _) (.cells S.cells 70))
 have HWn := evWindows h4 (hS.below hB1)
 rw [hwin] at HWn
 have HWn := hid HWn
 have HB1 := hid hB1
 have sc := (hB1.cell (p := ⟨bS, oS, none⟩) hbS).trans sc
 have m1 : IntKind.i64.wrap ((KH : Int) * (KW : Int)) = (n : Int) := by rw [<- Int.natCast_mul, <- hn]; exact IntWalk.i64_in _ (by omega)
 have Hkh := hid hkh
 have Hkw := hid hkw
 have HaS := hid haS
 have hns : 0 < S.nS := by rw [<- h4]; exact hsl
 clear hX hx1 hs h3 h4 hS hB1 hwin hT hlen hix hCT hCn hkh hkw haS hn hC
 unfold StepV.val at HWn ⊢
 unfold StepV.cells at HSB HB1 HWn sc
 go_enter Tryz.func66, Tryz.ntmps66
 go_upto_region 1 with fail
 generalize w.alloc (.cells (stC S) 70) = W1 at *
 obtain ⟨f0, f1, f2, f3, f4, f5, f6, f7, f8, f9, f10, f11, f12, ff, lt⟩ := HSB.out
 go_wp2_with fail
 refine HWn.out.mono ?_
 rintro e Wx ⟨aw, cw, rfl, hI, hb⟩
 rw [<- HT.out]
 have HI := hid hI
 have HSx := hid (HSB.out.below hb)
 have HBx := hid (HB1.out.trans (hb.mono HB1.out.size))
 have sc := (hb.cell (p := ⟨bS, oS, none⟩) (Nat.lt_of_lt_of_le hbS HB1.out.size)).trans sc
 have hbS2 := Nat.lt_of_lt_of_le hbS HBx.out.size
 clear hI hb HWn HB1 HSB f0 f1 f2 f3 f4 f5 f6 f7 f8 f9 f10 f11 f12 ff lt
 have f3 := HSx.out.f3
 have f4 := HSx.out.f4
 have f9 := HSx.out.f9
 have slt := HSx.out.lt
 rw [Hkh.out] at f3
 rw [Hkw.out] at f4
 rw [HaS.out] at f9
 go_wp2
 clear f3 f4 f9 sc
 go_loopw [5, 24] (fun v i wr => ∃ (k m : Nat) (a : Option Addr) (c : Nat), k <= C /\ Hid (m = k * T) /\ v = .slice a m c /\ i = .int .i64 (k : Int) /\ Hid (OutI Wx wr (.slice a m c) ((flatQ (poolAt avgL n win x) T k 0).map ratL))) (fun _ i _ => C - (intOf i).toNat)
 case atStart => exact ⟨0, 0, none, 0, Nat.zero_le _, by unfold Hid; omega, rfl, rfl, OutI.start Wx⟩
 case round =>
  obtain ⟨k, m, b0, k0, hk, HM, rfl, rfl, HOut⟩ := hrel
  by_cases hlt : k < C
  ·go_wp2
   go_loopw [5, 29] (fun v j wr => ∃ (i m : Nat) (a : Option Addr) (c : Nat), i <= T /\ Hid (m = k * T + i) /\ v = .slice a m c /\ j = .int .i64 (i : Int) /\ Hid (OutI Wx wr (.slice a m c) ((flatQ (poolAt avgL n win x) T k i).map ratL))) (fun _ j _ => T - (intOf j).toNat)
   case atStart => exact ⟨0, m, b0, k0, Nat.zero_le _, HM.out, rfl, rfl, HOut.out⟩
   case round =>
    clear HM HOut
    obtain ⟨i, m, b0, k0, hi0, HM, rfl, rfl, HOut⟩ := hrel
    by_cases hi : i < T
    ·obtain ⟨p0, hp0⟩ : ∃ p0, p0 = k * n := ⟨_, rfl⟩
     obtain ⟨p1, hp1⟩ : ∃ p1, p1 = (k + 1) * n := ⟨_, rfl⟩
     have hmul : p1 <= C * n := by rw [hp1]; exact Nat.mul_le_mul_right _ hlt
     have hp01 : p1 = p0 + n := by rw [hp1, hp0, Nat.succ_mul]
     have hcn := HCn.out
     have h10 : p1 - p0 = n := by omega
     have hmT : m + 1 <= 1000000 := by
      have h1 : (k + 1) * T <= C * T := Nat.mul_le_mul_right _ hlt
      have h2 := HCT.out
      have h3 := HM.out
      rw [Nat.succ_mul] at h1
      omega
     obtain ⟨bt, ot, l, ai, ci, haw', tc0, hl, hlc, hIl, hbt, _⟩ := HI.out.pickc (k := i) (by have := HT.out; omega)
     have hmem := List.mem_of_getElem? hl
     obtain ⟨ln, hln⟩ : ∃ ln, ln = l.length := ⟨_, rfl⟩
     have hln2 : p1 <= ln := by rw [hln, HLen.out l hmem]; exact hmul
     have hln3 : ln <= 1000000 := by rw [hln, HLen.out l hmem]; exact hcn
     have hp0l : p0 < ln := by omega
     have hp01l : p0 <= p1 := by omega
     rw [<- hln] at tc0 hlc
     have tc0 := (HOut.out.bl.cell (p := ⟨bt, ot + i, none⟩) hbt).trans tc0
     have hbt2 := Nat.lt_of_lt_of_le hbt HOut.out.bl.size
     have hIl2 := hIl.below HOut.out.bl
     obtain ⟨bi, oi, _, hai, _, _, _, _, _, _, _⟩ := hIl2.pick2 (k := 0) (by omega)
     rw [hai] at hIl2
     obtain ⟨hsl2, hsub⟩ := hIl2.sub (lo := p0) (n := n) (by omega)
     have hmx : ∀ j ∈ partL l p0 n, 0 <= j /\ j < x.length := fun j hj => HIx.out l hmem j (partL_mem hj)
     have hbr := HBx.out.trans (HOut.out.bl.mono HBx.out.size)
     have HFo := hid (evFoldI (n := n) (ci := ci - p0) (HSx.out.below HOut.out.bl) (HX.out.below hbr) H3.out hNx hsub hsl2 hn2 hmx)
     obtain ⟨s1, hs1⟩ : ∃ s1, s1 = ratL (poolAt avgL n win x k i) := ⟨_, rfl⟩
     have e1 : avgL (valsQ (partL l p0 n) x) = poolAt avgL n win x k i := by
      unfold poolAt
      rw [List.getD_eq_getElem?_getD, hl, <- hp0]
      rfl
     have hvm : ∀ q ∈ valsQ (partL l p0 n) x, RatLe (ratL q) 1048575 := by
      intro q hq
      obtain ⟨j, hj, rfl⟩ := List.mem_map.1 hq
      have := hmx j hj
      exact Hx1.out _ (getD_mem (by omega))
     have hpm : ∀ q, q < n -> RatLe (ratL (padd (valsQ (partL l p0 n) x) q)) 1048575 := fun q hq => by rw [hp0]; exact Hs.out k hlt l hmem q hq
     have hRl : (valsQ (partL l p0 n) x).length = n := by rw [valsQ_len]; exact hsl2
     have HPf : Hid (∀ (W : World) (aR : Option Addr) (cR : Nat), RatsAt W aR ((valsQ (partL l p0 n) x).map ratL) -> n <= cR -> Calls Tryz.prog 71 #[.slice aR n cR] W (RetR W s1)) := fun W aR cR hR hcR => by
      have h := evAvg (c := cR) (n := n) (hR.below (Below.refl _ _)) hRl hn1 hn2 hvm hpm
      rw [e1, <- hs1] at h
      exact h
     have HStep : Hid _ := flatQ_succ (poolAt avgL n win x) T k i
     rw [<- hs1] at HStep
     have HLf := hid ((flatQ_len (poolAt avgL n win x) T k i).trans HM.out.symm)
     have HM1 : Hid (m + 1 = k * T + (i + 1)) := by have := HM.out; unfold Hid; omega
     have m0 : IntKind.i64.wrap ((k : Int) * (n : Int)) = (p0 : Int) := by
      rw [<- Int.natCast_mul, <- hp0]; exact IntWalk.i64_in _ (by omega)
     have HM2 : Hid (IntKind.i64.wrap (((k : Int) + 1) * (n : Int)) = (p1 : Int)) := by
      have e : ((k : Int) + 1) * (n : Int) = (p1 : Int) := by rw [hp1]; simp
      unfold Hid
      rw [e]; exact IntWalk.i64_in _ (by omega)
     have HRl : Hid (((valsQ (partL l p0 n) x).map ratL).length = n) := by unfold Hid; rw [List.length_map]; exact hRl
     obtain ⟨vv, hvv⟩ : ∃ vv, vv = (valsQ (partL l p0 n) x).map ratL := ⟨_, rfl⟩
     rw [show (valsQ (List.take n (List.drop p0 l)) x).map ratL = vv from hvv.symm] at HFo
     rw [<- hvv] at HPf HRl
     subst haw' hai
     clear hl hmem hln hIl hIl2 hsl2 hsub hmx hbr hs1 e1 hvm hpm hRl hvv hp0 hp1
     have m2 : IntKind.i64.wrap (((k : Int) + 1) * (n : Int)) = (p1 : Int) := HM2.out
     go_wp2_with fail
     clear m2 m0
     refine HFo.out.mono ?_
     rintro e w1 ⟨aR, cR, rfl, hcR, hR, hb1⟩
     rw [HRl.out] at hcR ⊢
     have HC := hid (HPf.out w1 aR cR hR hcR)
     have HO1 := hid (HOut.out.below hb1)
     clear hR hb1 HFo HPf tc0
     go_wp2_with fail
     refine HC.out.mono ?_
     rintro e w2 ⟨v1, rfl, kv, kb⟩
     obtain ⟨bn', bd', dn', dd', rfl, g2, g3, g4, g5⟩ := kv.ex
     have hal : Below w2.heap.size w2 (w2.alloc (ratO s1 bn' dn' bd' dd' 37)) := (Below.refl _ _).alloc (Nat.le_refl _) _
     have HRow := hid (Row1.alloc g2 g3 g4 g5 37)
     have HO2 := hid ((HO1.out.below kb).below hal)
     clear kv kb g4 g5 hal HC
     go_wp2_with (at_builtin; refine wpList_appR rfl (.tmp 33) (.tmp 47) 26 rfl Wx.heap.size Tryz.underlying26 Tryz.infoRat (.slice b0 m k0) m _ HLf.out rfl HO2.out.own _ s1 HRow.out rfl (by omega) HO2.out.bl.size ?_; intro b3 k3 w3 hown hk3 hg hbe; have HOut3 := hid (show OutI Wx w3 (.slice b3 (m + 1) k3) ((flatQ (poolAt avgL n win x) T k (i + 1)).map ratL) from ⟨by rw [HStep.out]; exact hown, HO2.out.bl.trans hbe⟩); clear hown hg hbe)
     go_roundw
     case rel => exact ⟨i + 1, m + 1, b3, k3, hi, HM1.out, rfl, by go_num, HOut3.out⟩
     case measure => simp [intOf]; omega
    ·obtain rfl : i = T := by omega
     have HOn : Hid (OutI Wx wr (.slice b0 m k0) ((flatQ (poolAt avgL n win x) i (k + 1) 0).map ratL)) := by unfold Hid; rw [<- flatQ_next]; exact HOut.out
     have HM1 : Hid (m = (k + 1) * i) := by have := HM.out; unfold Hid; rw [Nat.succ_mul]; omega
     go_wp2
     go_roundw
     case rel => exact ⟨k + 1, m, b0, k0, hlt, HM1.out, rfl, by go_num, HOn.out⟩
     case measure => simp [intOf]; omega
  ·obtain rfl : k = C := by omega
   go_wp2
   have hNP : RowRet w ((flatQ (poolAt avgL n win x) T k 0).map ratL) (.returned (.slice b0 m k0)) wr := HOut.out.ret ((flatQ_len _ _ _ _).trans HM.out.symm) (by have := HCT.out; have := HM.out; omega) HBx.out
   exact bodyPost_ret (v := .slice b0 m k0) (by simp [results, Tryz.results66, go_sem]) rfl hNP
abbrev tabC (S : StepV) (w : World) : Array Value := #[.nilFunc, .func (.func 63) #[.agg (stC S)] #[], .func (.func 64) #[.agg (stC S)] #[], .func (.func 65) #[] #[.pointer (some ⟨w.heap.size, 0, none⟩)], .func (.func 70) #[] #[.pointer (some ⟨w.heap.size, 0, none⟩)], .func (.func 72) #[] #[.pointer (some ⟨w.heap.size, 0, none⟩)], .func (.func 75) #[.agg (stC S)] #[], .func (.func 76) #[.agg (stC S)] #[]]
theorem run_storeF {P : Program} {w : World} (a : Addr) (m : Mode) (f : Fn) (x y : Array Value) : (store a (.func f x y) m).run P w = stored P w a (.func f x y) m := run_store P w a _ m rfl
theorem run_storeN {P : Program} {w : World} (a : Addr) (m : Mode) : (store a .nilFunc m).run P w = stored P w a .nilFunc m := run_store P w a _ m rfl
attribute [local go_sem] run_storeF run_storeN
theorem evClo3 {w : World} {S : StepV} {g : Nat} {L : List RatL} (hS : SBox w g S) (hC : Calls Tryz.prog 66 #[S.val, .func (.func 67) #[] #[]] w (RowRet w L)) :
  Calls Tryz.prog 65 #[.pointer (some ⟨g, 0, none⟩)] w (RowRet w L) := by
 have HC := hid hC
 obtain ⟨f0, f1, f2, f3, f4, f5, f6, f7, f8, f9, f10, f11, f12, ff, lt⟩ := hS
 unfold StepV.val at HC
 clear hC
 go_enter Tryz.func65, Tryz.ntmps65
 go_wp2_with fail
 refine HC.out.mono ?_
 rintro e w1 ⟨b, c', rfl, hc', hR, hb⟩
 have HNP : Hid (RowRet w L (.returned (.slice b L.length c')) w1) := ⟨b, c', rfl, hc', hR, hb⟩
 generalize L.length = nn at *
 clear hc' hR hb HC f0 f1 f2 f3 f4 f5 f6 f7 f8 f9 f10 f11 f12 ff lt
 go_wp2
 exact bodyPost_ret (v := .slice b nn c') (by simp [results, Tryz.results65, go_sem]) rfl HNP.out
theorem evClo4 {w : World} {S : StepV} {g : Nat} {L : List RatL} (hS : SBox w g S) (hC : Calls Tryz.prog 66 #[S.val, .func (.func 71) #[] #[]] w (RowRet w L)) :
  Calls Tryz.prog 70 #[.pointer (some ⟨g, 0, none⟩)] w (RowRet w L) := by
 have HC := hid hC
 obtain ⟨f0, f1, f2, f3, f4, f5, f6, f7, f8, f9, f10, f11, f12, ff, lt⟩ := hS
 unfold StepV.val at HC
 clear hC
 go_enter Tryz.func70, Tryz.ntmps70
 go_wp2_with fail
 refine HC.out.mono ?_
 rintro e w1 ⟨b, c', rfl, hc', hR, hb⟩
 have HNP : Hid (RowRet w L (.returned (.slice b L.length c')) w1) := ⟨b, c', rfl, hc', hR, hb⟩
 generalize L.length = nn at *
 clear hc' hR hb HC f0 f1 f2 f3 f4 f5 f6 f7 f8 f9 f10 f11 f12 ff lt
 go_wp2
 exact bodyPost_ret (v := .slice b nn c') (by simp [results, Tryz.results70, go_sem]) rfl HNP.out
theorem evOut1 {w : World} {S : StepV} {L : List RatL} (hk : S.kd = 1) (hC : ∀ W, Below w.heap.size w W -> SBox W w.heap.size S -> Calls Tryz.prog 63 #[S.val] W (RowRet W L)) :
  Calls Tryz.prog 38 #[S.val] w (RowRet w L) := by
 have HC := hid hC
 have HSB := hid (SBox.alloc w S 70)
 have HB1 := hid ((Below.refl w.heap.size w).alloc (Nat.le_refl _) (.cells S.cells 70))
 have HK := hid hk
 clear hC hk
 unfold StepV.val at HC ⊢
 unfold StepV.cells at HSB HB1
 go_enter Tryz.func38, Tryz.ntmps38
 go_upto_region 1 with fail
 generalize w.alloc (.cells (stC S) 70) = W1 at *
 obtain ⟨f0, f1, f2, f3, f4, f5, f6, f7, f8, f9, f10, f11, f12, ff, lt⟩ := HSB.out
 go_upto_region 2 with fail
 have hal : Below W1.heap.size W1 (W1.alloc (.cells (tabC S w) 103)) := (Below.refl _ _).alloc (Nat.le_refl _) _
 have HSB2 := hid (HSB.out.below hal)
 have HB2 := hid (HB1.out.trans (hal.mono HB1.out.size))
 have ht : (W1.alloc (.cells (tabC S w) 103)).cell? ⟨W1.heap.size, 1, none⟩ = some (.func (.func 63) #[.agg (stC S)] #[]) := by rw [World.cell?_alloc_at _ _ _ _ rfl]; rfl
 have htl : W1.heap.size < (W1.alloc (.cells (tabC S w) 103)).heap.size := by simp
 clear hal f0 f1 f2 f3 f4 f5 f6 f7 f8 f9 f10 f11 f12 ff lt
 generalize W1.alloc (.cells (tabC S w) 103) = W2 at *
 have f0 := HSB2.out.f0
 have lt := HSB2.out.lt
 have HCt := hid (HC.out W2 HB2.out HSB2.out)
 rw [HK.out] at f0
 go_wp2_with fail
 refine HCt.out.mono ?_
 rintro e w1 ⟨b, c', rfl, hc', hR, hb⟩
 have HNP : Hid (RowRet w L (.returned (.slice b L.length c')) w1) := ⟨b, c', rfl, hc', hR, HB2.out.trans (hb.mono HB2.out.size)⟩
 generalize L.length = nn at *
 clear hc' hR hb HCt f0 lt ht htl
 go_wp2
 exact bodyPost_ret (v := .slice b nn c') (by simp [results, Tryz.results38, go_sem]) rfl HNP.out
theorem evOut2 {w : World} {S : StepV} {L : List RatL} (hk : S.kd = 2) (hC : ∀ W, Below w.heap.size w W -> SBox W w.heap.size S -> Calls Tryz.prog 64 #[S.val] W (RowRet W L)) :
  Calls Tryz.prog 38 #[S.val] w (RowRet w L) := by
 have HC := hid hC
 have HSB := hid (SBox.alloc w S 70)
 have HB1 := hid ((Below.refl w.heap.size w).alloc (Nat.le_refl _) (.cells S.cells 70))
 have HK := hid hk
 clear hC hk
 unfold StepV.val at HC ⊢
 unfold StepV.cells at HSB HB1
 go_enter Tryz.func38, Tryz.ntmps38
 go_upto_region 1 with fail
 generalize w.alloc (.cells (stC S) 70) = W1 at *
 obtain ⟨f0, f1, f2, f3, f4, f5, f6, f7, f8, f9, f10, f11, f12, ff, lt⟩ := HSB.out
 go_upto_region 2 with fail
 have hal : Below W1.heap.size W1 (W1.alloc (.cells (tabC S w) 103)) := (Below.refl _ _).alloc (Nat.le_refl _) _
 have HSB2 := hid (HSB.out.below hal)
 have HB2 := hid (HB1.out.trans (hal.mono HB1.out.size))
 have ht : (W1.alloc (.cells (tabC S w) 103)).cell? ⟨W1.heap.size, 2, none⟩ = some (.func (.func 64) #[.agg (stC S)] #[]) := by rw [World.cell?_alloc_at _ _ _ _ rfl]; rfl
 have htl : W1.heap.size < (W1.alloc (.cells (tabC S w) 103)).heap.size := by simp
 clear hal f0 f1 f2 f3 f4 f5 f6 f7 f8 f9 f10 f11 f12 ff lt
 generalize W1.alloc (.cells (tabC S w) 103) = W2 at *
 have f0 := HSB2.out.f0
 have lt := HSB2.out.lt
 have HCt := hid (HC.out W2 HB2.out HSB2.out)
 rw [HK.out] at f0
 go_wp2_with fail
 refine HCt.out.mono ?_
 rintro e w1 ⟨b, c', rfl, hc', hR, hb⟩
 have HNP : Hid (RowRet w L (.returned (.slice b L.length c')) w1) := ⟨b, c', rfl, hc', hR, HB2.out.trans (hb.mono HB2.out.size)⟩
 generalize L.length = nn at *
 clear hc' hR hb HCt f0 lt ht htl
 go_wp2
 exact bodyPost_ret (v := .slice b nn c') (by simp [results, Tryz.results38, go_sem]) rfl HNP.out
theorem evOut3 {w : World} {S : StepV} {L : List RatL} (hk : S.kd = 3) (hC : ∀ W, Below w.heap.size w W -> SBox W w.heap.size S -> Calls Tryz.prog 65 #[.pointer (some ⟨w.heap.size, 0, none⟩)] W (RowRet W L)) :
  Calls Tryz.prog 38 #[S.val] w (RowRet w L) := by
 have HC := hid hC
 have HSB := hid (SBox.alloc w S 70)
 have HB1 := hid ((Below.refl w.heap.size w).alloc (Nat.le_refl _) (.cells S.cells 70))
 have HK := hid hk
 clear hC hk
 unfold StepV.val at HC ⊢
 unfold StepV.cells at HSB HB1
 go_enter Tryz.func38, Tryz.ntmps38
 go_upto_region 1 with fail
 generalize w.alloc (.cells (stC S) 70) = W1 at *
 obtain ⟨f0, f1, f2, f3, f4, f5, f6, f7, f8, f9, f10, f11, f12, ff, lt⟩ := HSB.out
 go_upto_region 2 with fail
 have hal : Below W1.heap.size W1 (W1.alloc (.cells (tabC S w) 103)) := (Below.refl _ _).alloc (Nat.le_refl _) _
 have HSB2 := hid (HSB.out.below hal)
 have HB2 := hid (HB1.out.trans (hal.mono HB1.out.size))
 have ht : (W1.alloc (.cells (tabC S w) 103)).cell? ⟨W1.heap.size, 3, none⟩ = some (.func (.func 65) #[] #[.pointer (some ⟨w.heap.size, 0, none⟩)]) := by rw [World.cell?_alloc_at _ _ _ _ rfl]; rfl
 have htl : W1.heap.size < (W1.alloc (.cells (tabC S w) 103)).heap.size := by simp
 clear hal f0 f1 f2 f3 f4 f5 f6 f7 f8 f9 f10 f11 f12 ff lt
 generalize W1.alloc (.cells (tabC S w) 103) = W2 at *
 have f0 := HSB2.out.f0
 have lt := HSB2.out.lt
 have HCt := hid (HC.out W2 HB2.out HSB2.out)
 rw [HK.out] at f0
 go_wp2_with fail
 refine HCt.out.mono ?_
 rintro e w1 ⟨b, c', rfl, hc', hR, hb⟩
 have HNP : Hid (RowRet w L (.returned (.slice b L.length c')) w1) := ⟨b, c', rfl, hc', hR, HB2.out.trans (hb.mono HB2.out.size)⟩
 generalize L.length = nn at *
 clear hc' hR hb HCt f0 lt ht htl
 go_wp2
 exact bodyPost_ret (v := .slice b nn c') (by simp [results, Tryz.results38, go_sem]) rfl HNP.out
theorem evOut4 {w : World} {S : StepV} {L : List RatL} (hk : S.kd = 4) (hC : ∀ W, Below w.heap.size w W -> SBox W w.heap.size S -> Calls Tryz.prog 70 #[.pointer (some ⟨w.heap.size, 0, none⟩)] W (RowRet W L)) :
  Calls Tryz.prog 38 #[S.val] w (RowRet w L) := by
 have HC := hid hC
 have HSB := hid (SBox.alloc w S 70)
 have HB1 := hid ((Below.refl w.heap.size w).alloc (Nat.le_refl _) (.cells S.cells 70))
 have HK := hid hk
 clear hC hk
 unfold StepV.val at HC ⊢
 unfold StepV.cells at HSB HB1
 go_enter Tryz.func38, Tryz.ntmps38
 go_upto_region 1 with fail
 generalize w.alloc (.cells (stC S) 70) = W1 at *
 obtain ⟨f0, f1, f2, f3, f4, f5, f6, f7, f8, f9, f10, f11, f12, ff, lt⟩ := HSB.out
 go_upto_region 2 with fail
 have hal : Below W1.heap.size W1 (W1.alloc (.cells (tabC S w) 103)) := (Below.refl _ _).alloc (Nat.le_refl _) _
 have HSB2 := hid (HSB.out.below hal)
 have HB2 := hid (HB1.out.trans (hal.mono HB1.out.size))
 have ht : (W1.alloc (.cells (tabC S w) 103)).cell? ⟨W1.heap.size, 4, none⟩ = some (.func (.func 70) #[] #[.pointer (some ⟨w.heap.size, 0, none⟩)]) := by rw [World.cell?_alloc_at _ _ _ _ rfl]; rfl
 have htl : W1.heap.size < (W1.alloc (.cells (tabC S w) 103)).heap.size := by simp
 clear hal f0 f1 f2 f3 f4 f5 f6 f7 f8 f9 f10 f11 f12 ff lt
 generalize W1.alloc (.cells (tabC S w) 103) = W2 at *
 have f0 := HSB2.out.f0
 have lt := HSB2.out.lt
 have HCt := hid (HC.out W2 HB2.out HSB2.out)
 rw [HK.out] at f0
 go_wp2_with fail
 refine HCt.out.mono ?_
 rintro e w1 ⟨b, c', rfl, hc', hR, hb⟩
 have HNP : Hid (RowRet w L (.returned (.slice b L.length c')) w1) := ⟨b, c', rfl, hc', hR, HB2.out.trans (hb.mono HB2.out.size)⟩
 generalize L.length = nn at *
 clear hc' hR hb HCt f0 lt ht htl
 go_wp2
 exact bodyPost_ret (v := .slice b nn c') (by simp [results, Tryz.results38, go_sem]) rfl HNP.out
theorem evOut5 {w : World} {S : StepV} {L : List RatL} (hk : S.kd = 5) (hC : ∀ W, Below w.heap.size w W -> SBox W w.heap.size S -> Calls Tryz.prog 72 #[.pointer (some ⟨w.heap.size, 0, none⟩)] W (RowRet W L)) :
  Calls Tryz.prog 38 #[S.val] w (RowRet w L) := by
 have HC := hid hC
 have HSB := hid (SBox.alloc w S 70)
 have HB1 := hid ((Below.refl w.heap.size w).alloc (Nat.le_refl _) (.cells S.cells 70))
 have HK := hid hk
 clear hC hk
 unfold StepV.val at HC ⊢
 unfold StepV.cells at HSB HB1
 go_enter Tryz.func38, Tryz.ntmps38
 go_upto_region 1 with fail
 generalize w.alloc (.cells (stC S) 70) = W1 at *
 obtain ⟨f0, f1, f2, f3, f4, f5, f6, f7, f8, f9, f10, f11, f12, ff, lt⟩ := HSB.out
 go_upto_region 2 with fail
 have hal : Below W1.heap.size W1 (W1.alloc (.cells (tabC S w) 103)) := (Below.refl _ _).alloc (Nat.le_refl _) _
 have HSB2 := hid (HSB.out.below hal)
 have HB2 := hid (HB1.out.trans (hal.mono HB1.out.size))
 have ht : (W1.alloc (.cells (tabC S w) 103)).cell? ⟨W1.heap.size, 5, none⟩ = some (.func (.func 72) #[] #[.pointer (some ⟨w.heap.size, 0, none⟩)]) := by rw [World.cell?_alloc_at _ _ _ _ rfl]; rfl
 have htl : W1.heap.size < (W1.alloc (.cells (tabC S w) 103)).heap.size := by simp
 clear hal f0 f1 f2 f3 f4 f5 f6 f7 f8 f9 f10 f11 f12 ff lt
 generalize W1.alloc (.cells (tabC S w) 103) = W2 at *
 have f0 := HSB2.out.f0
 have lt := HSB2.out.lt
 have HCt := hid (HC.out W2 HB2.out HSB2.out)
 rw [HK.out] at f0
 go_wp2_with fail
 refine HCt.out.mono ?_
 rintro e w1 ⟨b, c', rfl, hc', hR, hb⟩
 have HNP : Hid (RowRet w L (.returned (.slice b L.length c')) w1) := ⟨b, c', rfl, hc', hR, HB2.out.trans (hb.mono HB2.out.size)⟩
 generalize L.length = nn at *
 clear hc' hR hb HCt f0 lt ht htl
 go_wp2
 exact bodyPost_ret (v := .slice b nn c') (by simp [results, Tryz.results38, go_sem]) rfl HNP.out
theorem evOut6 {w : World} {S : StepV} {L : List RatL} (hk : S.kd = 6) (hC : ∀ W, Below w.heap.size w W -> SBox W w.heap.size S -> Calls Tryz.prog 75 #[S.val] W (RowRet W L)) :
  Calls Tryz.prog 38 #[S.val] w (RowRet w L) := by
 have HC := hid hC
 have HSB := hid (SBox.alloc w S 70)
 have HB1 := hid ((Below.refl w.heap.size w).alloc (Nat.le_refl _) (.cells S.cells 70))
 have HK := hid hk
 clear hC hk
 unfold StepV.val at HC ⊢
 unfold StepV.cells at HSB HB1
 go_enter Tryz.func38, Tryz.ntmps38
 go_upto_region 1 with fail
 generalize w.alloc (.cells (stC S) 70) = W1 at *
 obtain ⟨f0, f1, f2, f3, f4, f5, f6, f7, f8, f9, f10, f11, f12, ff, lt⟩ := HSB.out
 go_upto_region 2 with fail
 have hal : Below W1.heap.size W1 (W1.alloc (.cells (tabC S w) 103)) := (Below.refl _ _).alloc (Nat.le_refl _) _
 have HSB2 := hid (HSB.out.below hal)
 have HB2 := hid (HB1.out.trans (hal.mono HB1.out.size))
 have ht : (W1.alloc (.cells (tabC S w) 103)).cell? ⟨W1.heap.size, 6, none⟩ = some (.func (.func 75) #[.agg (stC S)] #[]) := by rw [World.cell?_alloc_at _ _ _ _ rfl]; rfl
 have htl : W1.heap.size < (W1.alloc (.cells (tabC S w) 103)).heap.size := by simp
 clear hal f0 f1 f2 f3 f4 f5 f6 f7 f8 f9 f10 f11 f12 ff lt
 generalize W1.alloc (.cells (tabC S w) 103) = W2 at *
 have f0 := HSB2.out.f0
 have lt := HSB2.out.lt
 have HCt := hid (HC.out W2 HB2.out HSB2.out)
 rw [HK.out] at f0
 go_wp2_with fail
 refine HCt.out.mono ?_
 rintro e w1 ⟨b, c', rfl, hc', hR, hb⟩
 have HNP : Hid (RowRet w L (.returned (.slice b L.length c')) w1) := ⟨b, c', rfl, hc', hR, HB2.out.trans (hb.mono HB2.out.size)⟩
 generalize L.length = nn at *
 clear hc' hR hb HCt f0 lt ht htl
 go_wp2
 exact bodyPost_ret (v := .slice b nn c') (by simp [results, Tryz.results38, go_sem]) rfl HNP.out
theorem evOut7 {w : World} {S : StepV} {L : List RatL} (hk : S.kd = 7) (hC : ∀ W, Below w.heap.size w W -> SBox W w.heap.size S -> Calls Tryz.prog 76 #[S.val] W (RowRet W L)) :
  Calls Tryz.prog 38 #[S.val] w (RowRet w L) := by
 have HC := hid hC
 have HSB := hid (SBox.alloc w S 70)
 have HB1 := hid ((Below.refl w.heap.size w).alloc (Nat.le_refl _) (.cells S.cells 70))
 have HK := hid hk
 clear hC hk
 unfold StepV.val at HC ⊢
 unfold StepV.cells at HSB HB1
 go_enter Tryz.func38, Tryz.ntmps38
 go_upto_region 1 with fail
 generalize w.alloc (.cells (stC S) 70) = W1 at *
 obtain ⟨f0, f1, f2, f3, f4, f5, f6, f7, f8, f9, f10, f11, f12, ff, lt⟩ := HSB.out
 go_upto_region 2 with fail
 have hal : Below W1.heap.size W1 (W1.alloc (.cells (tabC S w) 103)) := (Below.refl _ _).alloc (Nat.le_refl _) _
 have HSB2 := hid (HSB.out.below hal)
 have HB2 := hid (HB1.out.trans (hal.mono HB1.out.size))
 have ht : (W1.alloc (.cells (tabC S w) 103)).cell? ⟨W1.heap.size, 7, none⟩ = some (.func (.func 76) #[.agg (stC S)] #[]) := by rw [World.cell?_alloc_at _ _ _ _ rfl]; rfl
 have htl : W1.heap.size < (W1.alloc (.cells (tabC S w) 103)).heap.size := by simp
 clear hal f0 f1 f2 f3 f4 f5 f6 f7 f8 f9 f10 f11 f12 ff lt
 generalize W1.alloc (.cells (tabC S w) 103) = W2 at *
 have f0 := HSB2.out.f0
 have lt := HSB2.out.lt
 have HCt := hid (HC.out W2 HB2.out HSB2.out)
 rw [HK.out] at f0
 go_wp2_with fail
 refine HCt.out.mono ?_
 rintro e w1 ⟨b, c', rfl, hc', hR, hb⟩
 have HNP : Hid (RowRet w L (.returned (.slice b L.length c')) w1) := ⟨b, c', rfl, hc', hR, HB2.out.trans (hb.mono HB2.out.size)⟩
 generalize L.length = nn at *
 clear hc' hR hb HCt f0 lt ht htl
 go_wp2
 exact bodyPost_ret (v := .slice b nn c') (by simp [results, Tryz.results38, go_sem]) rfl HNP.out
end Go.Proofs.YtoppijdedkdjeaaGreat

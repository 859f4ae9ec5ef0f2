/-
  Contracts of the functions that the statements reach, in the order in which they are built: DecK, DecL, DecM, DecQ, DecR, DecS, DecT.
-/
import Derived.Test.YtfmhedfiklidhaaM16
import Derived.Test.YtfmhedfiklidhaaShelf
import Derived.Deep.CutBlock
import Derived.Test.YtfmhedfiklidhaaM14
import Derived.Test.YtfmhedfiklidhaaM12
set_option linter.unusedVariables false
set_option linter.unusedSimpArgs false
set_option linter.constructorNameAsVariable false
set_option linter.deprecated false

/-
  The walk of decimal's parser: number: by contract.
-/
namespace Go.Proofs.Ytfmhedfiklidhaa
open Go.RowKit

theorem pIs' {w : World} {g : Nat} {L : List UInt8} {a cnt : Nat} (h : PBox w g L a cnt) (hL : L.length ≤ 100000) (ha : a ≤ L.length) (c : UInt8) (k : Int) (hk : k = (c.toNat : Int)) :
    Calls Try.prog 59 #[.pointer (some ⟨g, 0, none⟩), .int .u8 k] w (IsPost w g L a cnt c) := by
  subst hk; exact pIs h hL ha c
theorem pDigitsR {w : World} {g : Nat} {L : List UInt8} {a u : Nat} (h : PBox w g L a u) (hL : L.length ≤ 100000) (ha : a ≤ L.length) (hu : u ≤ 4000) {R : List UInt8} (hR : runD (L.drop a) = R) :
    Calls Try.prog 60 #[.pointer (some ⟨g, 0, none⟩)] w fun e w' =>
      (4000 < u + R.length ∧ e = .returned (.tuple #[.string (Str []), .int .i64 8]) ∧ Only g w w' ∧ PBox w' g L (a + (4000 - u)) 4000) ∨
      (u + R.length ≤ 4000 ∧ R.length = 0 ∧ e = .returned (.tuple #[.string (Str []), .int .i64 4]) ∧ Only g w w' ∧ PBox w' g L a u) ∨
      (u + R.length ≤ 4000 ∧ 0 < R.length ∧ e = .returned (.tuple #[.string (Str R), .int .i64 0]) ∧ Only g w w' ∧ PBox w' g L (a + R.length) (u + R.length)) := by
  subst hR; exact pDigits h hL ha hu
theorem repeat_one (c : UInt8) (n : Nat) : Lib.repeatL [c] n = List.replicate n c := by
  induction n with
  | zero => rfl
  | succ n ih => simp [Lib.repeatL, List.replicate_succ] at ih ⊢; try exact ih
theorem valD_ten (q : Nat) : valD (49 :: List.replicate q 48) = 10 ^ q := by
  have h : ∀ q, valD (List.replicate q 48) = 0 := by
    intro q
    induction q with
    | zero => rfl
    | succ q ih => rw [List.replicate_succ', valD_append, ih]; rfl
  have := valD_append [49] (List.replicate q 48)
  rw [h q] at this
  simpa [valD, valC] using this

/-- While number runs: the parser in block g, the result's place in block h. -/
structure NSt (B g h : Nat) (w wx : World) (L : List UInt8) (a cnt : Nat) : Prop where
  p : PBox wx g L a cnt
  c : Box3 wx h (.bool false) (.slice none 0 0) (.slice none 0 0)
  nc : NoInt wx h
  bl : Below B w wx
  ne : h ≠ g
  Bg : B ≤ g
  gh : g < h
theorem NSt.only {B g h : Nat} {w wx w' : World} {L : List UInt8} {a cnt a' cnt' : Nat} (n : NSt B g h w wx L a cnt) (ho : Only g wx w') (hp : PBox w' g L a' cnt') : NSt B g h w w' L a' cnt' := by
  have hf : ∀ o, w'.frozen? ⟨h, o, none⟩ = false := fun o => (World.frozen?_of_block (w := wx) (a := ⟨h, o, none⟩) (ho.block h n.ne)).trans (n.c.free o)
  exact ⟨hp, ⟨(ho.cell (p := ⟨h, 0, none⟩) n.ne).trans n.c.c0, (ho.cell (p := ⟨h, 1, none⟩) n.ne).trans n.c.c1, (ho.cell (p := ⟨h, 2, none⟩) n.ne).trans n.c.c2, hf, by rw [ho.size]; exact n.c.lt⟩,
    fun o x e => n.nc o x ((ho.cell (p := ⟨h, o, none⟩) n.ne).symm.trans e), n.bl.trans (ho.below n.Bg), n.ne, n.Bg, n.gh⟩
theorem NSt.below {B g h : Nat} {w wx w' : World} {L : List UInt8} {a cnt : Nat} (n : NSt B g h w wx L a cnt) (hb : Below wx.heap.size wx w') : NSt B g h w w' L a cnt :=
  ⟨n.p.below hb, n.c.below hb, n.nc.below hb n.c.lt, n.bl.trans (hb.mono (Nat.le_trans n.Bg (Nat.le_of_lt n.p.lt))), n.ne, n.Bg, n.gh⟩
theorem Only.u32sB {g : Nat} {w w' : World} (h : Only g w w') {a : Option Addr} {l : List Nat} (hu : U32s w a l) (hn : ∀ b o, a = some ⟨b, o, none⟩ → b ≠ g) : U32s w' a l := by
  refine ⟨hu.lim, hu.len, hu.row.imp id ?_⟩
  rintro ⟨b, off, rfl, hs, hc⟩
  exact ⟨b, off, rfl, by rw [h.size]; exact hs, fun j d hj => (h.cell (p := ⟨b, off + j, none⟩) (hn b off rfl)).trans (hc j d hj)⟩
/-- What number leaves. -/
def NumPost (B g : Nat) (w : World) (L : List UInt8) (e : Ending) (w' : World) : Prop :=
  ∃ v a cnt, e = .returned (.tuple #[v, .int .i64 (parseL L).2.2]) ∧ RatV w' v (parseL L).1 ∧ Below B w w' ∧ PBox w' g L a cnt ∧ ((parseL L).2.2 ≠ 0 → a = (parseL L).2.1)
/-- An error's end. -/
theorem NSt.fail {B g h : Nat} {w wx : World} {L : List UInt8} {a cnt : Nat} (n : NSt B g h w wx L a cnt) {c : Int} (hp : parseL L = (nilR, a, c)) :
    NumPost B g w L (.returned (.tuple #[.agg #[.bool false, .slice none 0 0, .slice none 0 0], .int .i64 c])) (((wx.setCell ⟨h, 0, none⟩ (.bool false)).setCell ⟨h, 1, none⟩ (.slice none 0 0)).setCell ⟨h, 2, none⟩ (.slice none 0 0)) := by
  refine ⟨_, a, cnt, by rw [hp], by rw [hp]; exact nilV _, below_store3 n.bl (Nat.le_of_lt (Nat.lt_of_le_of_lt n.Bg n.gh)) _ _ _, ?_, fun _ => by rw [hp]⟩
  have hne : h ≠ g := n.ne
  have hc : ∀ (W : World) (o : Nat) (v : Value), PBox W g L a cnt → PBox (W.setCell ⟨h, o, none⟩ v) g L a cnt := fun W o v q =>
    ⟨(far2 hne).trans q.c0, (far2 hne).trans q.c1, (far2 hne).trans q.c2, fun o => by simp [World.frozen?_setCell, q.free o], by simpa using q.lt⟩
  exact hc _ _ _ (hc _ _ _ (hc _ _ _ n.p))

/-- The end with a value. -/
theorem NSt.done {B g h : Nat} {w wx : World} {L : List UInt8} {a cnt : Nat} (n : NSt B g h w wx L a cnt) {x : RatL} {bn bd : Option Addr} {m1 m2 : Nat} (h1 : x.num.length ≤ m1) (h2 : x.den.length ≤ m2) (k5 : U32s wx bn x.num) (k6 : U32s wx bd x.den) (o : Obj) {c : Int}
    (hp : (parseL L).1 = x) (hc : (parseL L).2.2 = c) (ha : c ≠ 0 → a = (parseL L).2.1) :
    Box3 ((((wx.setCell ⟨h, 0, none⟩ (.bool x.neg)).setCell ⟨h, 1, none⟩ (.slice bn x.num.length m1)).setCell ⟨h, 2, none⟩ (.slice bd x.den.length m2)).alloc o) h (.bool x.neg) (.slice bn x.num.length m1) (.slice bd x.den.length m2) ∧
    NumPost B g w L (.returned (.tuple #[.agg #[.bool x.neg, .slice bn x.num.length m1, .slice bd x.den.length m2], .int .i64 c])) ((((wx.setCell ⟨h, 0, none⟩ (.bool x.neg)).setCell ⟨h, 1, none⟩ (.slice bn x.num.length m1)).setCell ⟨h, 2, none⟩ (.slice bd x.den.length m2)).alloc o) := by
  have hne : h ≠ g := n.ne
  have hcc : ∀ (W : World) (o : Nat) (v : Value), PBox W g L a cnt → PBox (W.setCell ⟨h, o, none⟩ v) g L a cnt := fun W o v q =>
    ⟨(far2 hne).trans q.c0, (far2 hne).trans q.c1, (far2 hne).trans q.c2, fun o => by simp [World.frozen?_setCell, q.free o], by simpa using q.lt⟩
  have hal := fun (Y : World) => (Below.refl Y.heap.size Y).alloc (Nat.le_refl _) o
  have hb := below_store3 n.bl (Nat.le_of_lt (Nat.lt_of_le_of_lt n.Bg n.gh)) (.bool x.neg) (.slice bn x.num.length m1) (.slice bd x.den.length m2)
  have hs := n.c.store (.bool x.neg) (.slice bn x.num.length m1) (.slice bd x.den.length m2)
  have hr := RatV.store n.nc h1 h2 k5 k6
  refine ⟨hs.below (hal _), _, a, cnt, by rw [hc], by rw [hp]; exact hr.below (hal _), hb.trans ((hal _).mono (Nat.le_trans (Nat.le_of_lt (Nat.lt_of_le_of_lt n.Bg n.gh)) (Nat.le_of_lt hs.lt))), (hcc _ 2 _ (hcc _ 1 _ (hcc _ 0 _ n.p))).below (hal _), fun hne => ha (by rwa [hc] at hne)⟩
theorem sgn_andB (neg b : Bool) (n : Nat) : sgn ((neg && decide (n ≠ 0)) != (false && b)) n = sgn neg n := by
  cases neg
  · rfl
  · by_cases h : n = 0
    · subst h; simp [sgn]
    · simp [sgn, h]

/-- Where number's ways meet again. -/
structure CutN (B g h : Nat) (w wx : World) (L : List UInt8) (neg : Bool) (s7 s8 s9 : Value) : Prop where
  ex : ∃ (A : List UInt8) (D f e cnt : Nat) (b : Option Addr) (d : Nat), s7 = .string (Str A) ∧ s8 = .slice b (limbs D).length d ∧ s9 = .int .i64 (f : Int) ∧ (∀ c ∈ A, isD c = true) ∧ A.length ≤ 4000 ∧ (limbs D).length ≤ d ∧ U32s wx b (limbs D) ∧ (limbs D).length ≤ 4001 ∧
    NSt B g h w wx L e cnt ∧ e ≤ L.length ∧ parseL L = tailP L neg e (if D = 0 then (f : Int) else -1) (valD A) D

set_option maxRecDepth 100000 in
set_option maxHeartbeats 6400000 in
theorem pNumber {w : World} {g B : Nat} {L : List UInt8} (h : PBox w g L 0 0) (hB : B ≤ g) (hL : L.length ≤ 100000) :
    Calls Try.prog 29 #[.pointer (some ⟨g, 0, none⟩)] w (NumPost B g w L) := by
  have hN0 : NSt B g w.heap.size w (w.alloc (.cells #[.bool false, .slice none 0 0, .slice none 0 0] 25)) L 0 0 := by
    have hb : Below w.heap.size w (w.alloc (.cells #[.bool false, .slice none 0 0, .slice none 0 0] 25)) := (Below.refl _ _).alloc (Nat.le_refl _) _
    exact ⟨h.below hb, Box3.alloc _ _ _ _ _, NoInt.alloc w #[.bool false, .slice none 0 0, .slice none 0 0] _ (by simp), hb.mono (Nat.le_trans hB (Nat.le_of_lt h.lt)), by have := h.lt; omega, hB, h.lt⟩
  have HN0 := Lib.hid hN0
  have hsz := Str_size L
  clear h hN0
  go_enter Try.func29, Try.ntmps29
  go_upto_region 1 with fail
  generalize w.alloc (.cells #[.bool false, .slice none 0 0, .slice none 0 0] 25) = W at *
  go_wp2_with fail
  refine (pIs' HN0.out.p hL (Nat.zero_le _) 45 45 rfl).mono ?_
  rintro e w1 ⟨rfl, ho1, hp1⟩
  obtain ⟨neg, hneg⟩ : ∃ neg, neg = isAt L 0 45 := ⟨_, rfl⟩
  obtain ⟨s, hs⟩ : ∃ s, s = (if isAt L 0 45 then 0 + 1 else 0) := ⟨_, rfl⟩
  have HNeg : Hid (neg = negP L) := hneg
  have HS : Hid (s = fromP L) := hs
  have hsl : s ≤ L.length := by
    rw [hs]
    unfold isAt
    by_cases h0 : 0 < L.length
    · split <;> omega
    · rw [decide_eq_false h0]; simp
  rw [← hs] at hp1
  rw [← hneg]
  have HN1 := Lib.hid (HN0.out.only ho1 hp1)
  obtain ⟨R, hR⟩ : ∃ R, runD (L.drop s) = R := ⟨_, rfl⟩
  have HPL : Hid (parseL L = if 4000 < R.length then (nilR, s + 4000, 8) else if R.length = 0 then (nilR, s, 4) else restP L neg (s + R.length) R) := by
    unfold Hid parseL; rw [← HS.out, ← HNeg.out, hR]
  have hend := (runD_end hsl).1
  rw [hR] at hend
  have HRd := Lib.hid (runD_all (L.drop s))
  rw [hR] at HRd
  have HR := Lib.hid hR
  clear ho1 hp1 hneg hs hR HN0 HNeg HS
  go_wp2_with fail
  refine (pDigitsR HN1.out.p hL hsl (Nat.zero_le _) HR.out).mono ?_
  intro e w2 hp
  rcases hp with ⟨h1, rfl, ho, hp⟩ | ⟨h1, h2, rfl, ho, hp⟩ | ⟨h1, h2, rfl, ho, hp⟩
  · have HN2 := Lib.hid (HN1.out.only ho hp)
    have HE : Hid (parseL L = (nilR, s + (4000 - 0), 8)) := by unfold Hid; rw [HPL.out, if_pos (by omega)]
    obtain ⟨r0, r1, r2, rf, rlt⟩ := HN2.out.c
    clear h1 ho hp
    go_wp2
    exact bodyPost_ret (v := .tuple #[.agg #[.bool false, .slice none 0 0, .slice none 0 0], .int .i64 8]) (by simp [results, Try.results29, go_sem, r0, r1, r2]) rfl (HN2.out.fail HE.out)
  · have HN2 := Lib.hid (HN1.out.only ho hp)
    have HE : Hid (parseL L = (nilR, s, 4)) := by unfold Hid; rw [HPL.out, if_neg (by omega), if_pos h2]
    obtain ⟨r0, r1, r2, rf, rlt⟩ := HN2.out.c
    clear h1 h2 ho hp
    go_wp2
    exact bodyPost_ret (v := .tuple #[.agg #[.bool false, .slice none 0 0, .slice none 0 0], .int .i64 4]) (by simp [results, Try.results29, go_sem, r0, r1, r2]) rfl (HN2.out.fail HE.out)
  · have HN2 := Lib.hid (HN1.out.only ho hp)
    obtain ⟨E, hE⟩ : ∃ E, E = s + R.length := ⟨_, rfl⟩
    obtain ⟨U, hU⟩ : ∃ U, U = 0 + R.length := ⟨_, rfl⟩
    rw [← hE, ← hU] at HN2
    have HPE : Hid (parseL L = restP L neg E R) := by unfold Hid; rw [HPL.out, if_neg (by omega), if_neg (by omega), hE]
    have hEl : E ≤ L.length := by omega
    have hRl : R.length ≤ 4000 := by omega
    have hU1 : U ≤ R.length := by omega
    have hU2 : R.length ≤ U := by omega
    obtain ⟨y0, y1, y2, yf, ylt⟩ := HN2.out.p
    clear h1 ho hp hE hU HN1 HPL HR yf
    have hal : Below w2.heap.size w2 (w2.alloc (.cells #[.int .u32 1] 83)) := (Below.refl _ _).alloc (Nat.le_refl _) _
    have HN3 := Lib.hid (HN2.out.below hal)
    have HD1 : Hid (U32s (w2.alloc (.cells #[.int .u32 1] 83)) (some ⟨w2.heap.size, 0, none⟩) (limbs 1)) := by
      unfold Hid
      rw [limbs_one]
      refine ⟨by intro d hd; simp at hd; omega, by simp, .inr ⟨w2.heap.size, 0, rfl, by simp, fun j d hj => ?_⟩⟩
      rw [World.cell?_alloc_at _ _ _ _ rfl]
      match j, hj with
      | 0, hj => simp at hj; subst hj; simp
    have hg2 : w2.heap.size ≠ g := by omega
    obtain ⟨den, hden⟩ : ∃ den : Option Addr, den = some ⟨w2.heap.size, 0, none⟩ := ⟨_, rfl⟩
    have HDen := Lib.hid (show ∀ b o, den = some ⟨b, o, none⟩ → b ≠ g from fun b o e => by rw [hden] at e; cases e; exact hg2)
    have HDe := Lib.hid hden
    rw [← HDe.out] at HD1
    clear hal hden
    go_upto_block 0 with fail
    rw [← HDe.out]
    clear y0 y1 y2 ylt hg2 HDe HN2
    generalize w2.alloc (.cells #[.int .u32 1] 83) = W3 at *
    go_cut [7, 8, 9] (fun s7 s8 s9 wx => CutN B g w.heap.size w wx L neg s7 s8 s9)
    case first =>
      go_wp2_with fail
      refine (pIs' HN3.out.p hL hEl 47 47 rfl).mono ?_
      rintro e w4 ⟨rfl, ho4, hp4⟩
      have HN4 := Lib.hid (HN3.out.only ho4 hp4)
      have HD4 := Lib.hid (ho4.u32sB HD1.out HDen.out)
      obtain ⟨sl, hsl2⟩ : ∃ sl, sl = isAt L E 47 := ⟨_, rfl⟩
      rw [← hsl2] at HN4 ⊢
      have HSl := Lib.hid hsl2
      clear ho4 hp4 hsl2 HN3 HD1
      cases hq : sl with
      | true =>
        obtain ⟨f, hf⟩ : ∃ f : Nat, f = E + 1 := ⟨_, rfl⟩
        have hlt : E < L.length := by
          have h1 := HSl.out
          rw [hq] at h1
          unfold isAt at h1
          by_cases hc : E < L.length
          · exact hc
          · rw [decide_eq_false hc, Bool.false_and] at h1; cases h1
        have hcb : L.getD E 0 = 47 := by
          have h1 := HSl.out
          rw [hq] at h1
          unfold isAt at h1
          rw [decide_eq_true hlt, Bool.true_and] at h1
          exact beq_iff_eq.1 h1.symm
        rw [hq, if_pos rfl, ← hf] at HN4
        obtain ⟨Q, hQ⟩ : ∃ Q, runD (L.drop f) = Q := ⟨_, rfl⟩
        have hfl : f ≤ L.length := by omega
        have hend2 := (runD_end hfl).1
        rw [hQ] at hend2
        have hpr := HPE.out
        unfold restP at hpr
        rw [if_pos ⟨hlt, .inl hcb⟩, ← hf, hQ] at hpr
        have HPr := Lib.hid hpr
        have HQ := Lib.hid hQ
        have HCb := Lib.hid hcb
        have hU4 : U ≤ 4000 := by omega
        have HQd := Lib.hid (runD_all (L.drop f))
        rw [hQ] at HQd
        have hfb : f ≤ 100000 := by omega
        clear hpr hQ hf hcb hq
        obtain ⟨y0, y1, y2, yf, ylt⟩ := HN4.out.p
        clear yf
        go_wp2_with fail
        refine (pDigitsR HN4.out.p hL hfl hU4 HQ.out).mono ?_
        intro e w5 hp
        clear y0 y1 y2 ylt
        rcases hp with ⟨h1, rfl, ho, hp⟩ | ⟨h1, h2, rfl, ho, hp⟩ | ⟨h1, h2, rfl, ho, hp⟩
        · have HN5 := Lib.hid (HN4.out.only ho hp)
          have HE : Hid (parseL L = (nilR, f + (4000 - U), 8)) := by unfold Hid; rw [HPr.out, if_pos (by omega)]; congr 2; omega
          obtain ⟨r0, r1, r2, rf, rlt⟩ := HN5.out.c
          clear h1 ho hp
          go_wp2
          exact bodyPost_ret (v := .tuple #[.agg #[.bool false, .slice none 0 0, .slice none 0 0], .int .i64 8]) (by simp [results, Try.results29, go_sem, r0, r1, r2]) rfl (HN5.out.fail HE.out)
        · have HN5 := Lib.hid (HN4.out.only ho hp)
          have HE : Hid (parseL L = (nilR, f, 4)) := by unfold Hid; rw [HPr.out, if_neg (by omega), if_pos h2]
          obtain ⟨r0, r1, r2, rf, rlt⟩ := HN5.out.c
          clear h1 h2 ho hp
          go_wp2
          exact bodyPost_ret (v := .tuple #[.agg #[.bool false, .slice none 0 0, .slice none 0 0], .int .i64 4]) (by simp [results, Try.results29, go_sem, r0, r1, r2]) rfl (HN5.out.fail HE.out)
        · have HN5 := Lib.hid (HN4.out.only ho hp)
          have HPe : Hid (parseL L = tailP L neg (f + Q.length) (if valD Q = 0 then ((f : Nat) : Int) else -1) (valD R) (valD Q)) := by unfold Hid; rw [HPr.out, if_neg (by omega), if_neg (by omega), if_pos HCb.out]
          have hQl : Q.length ≤ 4000 := by omega
          have hge : f + Q.length ≤ L.length := hend2
          have HV := Lib.hid (fun (wv : World) => dValue (w := wv) HQd.out (by omega))
          have hDl : (limbs (valD Q)).length ≤ 4001 := Nat.le_trans (limbs_len_dec (valD_lt Q HQd.out)) (by omega)
          clear h1 h2 ho hp
          go_wp2_with fail
          refine (HV.out _).mono ?_
          rintro e w6 ⟨a6, c6, rfl, k1, k2, hb6⟩
          have HN6 := Lib.hid (HN5.out.below hb6)
          have K1 := Lib.hid k1
          have K2 := Lib.hid k2
          clear k1 k2 hb6
          go_wp2
          go_meet
          exact ⟨⟨R, valD Q, f, f + Q.length, U + Q.length, _, _, rfl, rfl, rfl, HRd.out, hRl, K1.out, K2.out, hDl, HN6.out, hge, HPe.out⟩⟩
      | false =>
        rw [hq] at HN4 HSl
        have HN4b : Hid (NSt B g w.heap.size w w4 L E U) := HN4.out
        clear hq HN4
        go_wp2_with fail
        refine (pIs' HN4b.out.p hL hEl 46 46 rfl).mono ?_
        rintro e w5 ⟨rfl, ho5, hp5⟩
        have HN5 := Lib.hid (HN4b.out.only ho5 hp5)
        have HD5 := Lib.hid (ho5.u32sB HD4.out HDen.out)
        obtain ⟨sd, hsd2⟩ : ∃ sd, sd = isAt L E 46 := ⟨_, rfl⟩
        rw [← hsd2] at HN5 ⊢
        have HSd := Lib.hid hsd2
        clear ho5 hp5 hsd2 HN4b HD4
        cases hq : sd with
        | true =>
          obtain ⟨f, hf⟩ : ∃ f : Nat, f = E + 1 := ⟨_, rfl⟩
          have hlt : E < L.length := by
            have h1 := HSd.out
            rw [hq] at h1
            unfold isAt at h1
            by_cases hc : E < L.length
            · exact hc
            · rw [decide_eq_false hc, Bool.false_and] at h1; cases h1
          have hcb : L.getD E 0 = 46 := by
            have h1 := HSd.out
            rw [hq] at h1
            unfold isAt at h1
            rw [decide_eq_true hlt, Bool.true_and] at h1
            exact beq_iff_eq.1 h1.symm
          rw [hq, if_pos rfl, ← hf] at HN5
          obtain ⟨Q, hQ⟩ : ∃ Q, runD (L.drop f) = Q := ⟨_, rfl⟩
          have hfl : f ≤ L.length := by omega
          have hend2 := (runD_end hfl).1
          rw [hQ] at hend2
          have hpr := HPE.out
          unfold restP at hpr
          rw [if_pos ⟨hlt, .inr hcb⟩, ← hf, hQ] at hpr
          have HPr := Lib.hid hpr
          have HQ := Lib.hid hQ
          have HCb := Lib.hid hcb
          have hU4 : U ≤ 4000 := by omega
          have HQd := Lib.hid (runD_all (L.drop f))
          rw [hQ] at HQd
          have hfb : f ≤ 100000 := by omega
          clear hpr hQ hf hcb hq
          obtain ⟨y0, y1, y2, yf, ylt⟩ := HN5.out.p
          clear yf
          go_wp2_with fail
          refine (pDigitsR HN5.out.p hL hfl hU4 HQ.out).mono ?_
          intro e w6x hp
          clear y0 y1 y2 ylt
          rcases hp with ⟨h1, rfl, ho, hp⟩ | ⟨h1, h2, rfl, ho, hp⟩ | ⟨h1, h2, rfl, ho, hp⟩
          · have HN6x := Lib.hid (HN5.out.only ho hp)
            have HE : Hid (parseL L = (nilR, f + (4000 - U), 8)) := by unfold Hid; rw [HPr.out, if_pos (by omega)]; congr 2; omega
            obtain ⟨r0, r1, r2, rf, rlt⟩ := HN6x.out.c
            clear h1 ho hp
            go_wp2
            exact bodyPost_ret (v := .tuple #[.agg #[.bool false, .slice none 0 0, .slice none 0 0], .int .i64 8]) (by simp [results, Try.results29, go_sem, r0, r1, r2]) rfl (HN6x.out.fail HE.out)
          · have HN6x := Lib.hid (HN5.out.only ho hp)
            have HE : Hid (parseL L = (nilR, f, 4)) := by unfold Hid; rw [HPr.out, if_neg (by omega), if_pos h2]
            obtain ⟨r0, r1, r2, rf, rlt⟩ := HN6x.out.c
            clear h1 h2 ho hp
            go_wp2
            exact bodyPost_ret (v := .tuple #[.agg #[.bool false, .slice none 0 0, .slice none 0 0], .int .i64 4]) (by simp [results, Try.results29, go_sem, r0, r1, r2]) rfl (HN6x.out.fail HE.out)
          · have HN6x := Lib.hid (HN5.out.only ho hp)
            have HPe : Hid (parseL L = tailP L neg (f + Q.length) (-1) (valD R * 10 ^ Q.length + valD Q) (10 ^ Q.length)) := by unfold Hid; rw [HPr.out, if_neg (by omega), if_neg (by omega), if_neg (by rw [HCb.out]; decide)]
            have hQl : Q.length ≤ 4000 := by omega
            have hRQ : R.length + Q.length ≤ 4000 := by omega
            have hge : f + Q.length ≤ L.length := hend2
            obtain ⟨q, hq⟩ : ∃ q, q = Q.length := ⟨_, rfl⟩
            have hsq := Str_size Q
            rw [← hq] at hsq HPe
            have hqb : q ≤ 4000 := by omega
            have hadd := fun (wv : World) => add_run (P := Try.prog) R Q (by omega) wv
            have hadd2 := fun (wv : World) => add_run' (P := Try.prog) 49 (List.replicate q 48) (by rw [List.length_replicate]; omega) wv
            have HRep : Hid (∀ wv : World, Calls Try.prog 42 #[.string ⟨#[48]⟩, .int .i64 (q : Int)] wv fun e w' => e = .returned (.string (Str (List.replicate q 48))) ∧ Below wv.heap.size wv w') := fun wv => by
              have h := Try.strings_Repeat (⟨#[48]⟩ : ByteArray) q wv (by omega) (by show 1 * q ≤ _; omega)
              refine h.mono ?_
              rintro e w' ⟨rfl, hb⟩
              refine ⟨?_, hb⟩
              have : Lib.repeatL [(48 : UInt8)] q = List.replicate q 48 := repeat_one 48 q
              show Ending.returned (.string ⟨(Lib.repeatL [(48 : UInt8)] q).toArray⟩) = _
              rw [this]; rfl
            have HV : Hid (∀ wv : World, Calls Try.prog 41 #[.string (Str (49 :: List.replicate q 48))] wv (RetN wv (10 ^ q))) := fun wv => by
              rw [← valD_ten]
              refine dValue (fun c hc => ?_) (by simp; omega)
              rcases List.mem_cons.1 hc with rfl | h
              · decide
              · rw [List.eq_of_mem_replicate h]; decide
            have hDl : (limbs (10 ^ q)).length ≤ 4001 := Nat.le_trans (limbs_pow10 q) (by omega)
            have HAll : Hid (∀ c ∈ R ++ Q, isD c = true) := fun c hc => (List.mem_append.1 hc).elim (HRd.out c) (HQd.out c)
            have HAv : Hid (valD (R ++ Q) = valD R * 10 ^ q + valD Q) := by unfold Hid; rw [valD_append, hq]
            have HAl : Hid ((R ++ Q).length ≤ 4000) := by unfold Hid; rw [List.length_append]; exact hRQ
            have HQq := Lib.hid hq
            have HPw : Hid ((if (10 : Nat) ^ q = 0 then ((L.length : Nat) : Int) else -1) = -1) := by
              unfold Hid
              rw [if_neg (by have : 0 < 10 ^ q := Nat.pow_pos (by decide); omega)]
            clear h1 h2 ho hp hq
            go_wp2_with fail
            refine (HRep.out _).mono ?_
            rintro e w6 ⟨rfl, hb6⟩
            have HN6y := Lib.hid (HN6x.out.below hb6)
            clear hb6
            go_wp2_with fail
            refine (HV.out _).mono ?_
            rintro e w7 ⟨a7, c7, rfl, k1, k2, hb7⟩
            have HN7 := Lib.hid (HN6y.out.below hb7)
            have K1 := Lib.hid k1
            have K2 := Lib.hid k2
            clear k1 k2 hb7
            go_wp2
            go_meet
            exact ⟨⟨R ++ Q, 10 ^ q, L.length, f + Q.length, U + Q.length, _, _, rfl, rfl, rfl, HAll.out, HAl.out, K1.out, K2.out, hDl, HN7.out, hge, by rw [← HQq.out, HPe.out, HPw.out, HAv.out]⟩⟩
        | false =>
          rw [hq] at HN5 HSd
          have HN5b : Hid (NSt B g w.heap.size w w5 L E U) := HN5.out
          have HPe : Hid (parseL L = tailP L neg E (-1) (valD R) 1) := by
            unfold Hid
            rw [HPE.out]
            unfold restP
            rw [if_neg]
            rintro ⟨hlt, hc⟩
            have h1 := HSl.out
            have h2 := HSd.out
            unfold isAt at h1 h2
            rw [decide_eq_true hlt, Bool.true_and] at h1 h2
            rcases hc with hc | hc
            · rw [hc] at h1; cases h1
            · rw [hc] at h2; cases h2
          have HL1 : Hid ((limbs 1).length = 1) := by unfold Hid; rw [limbs_one]; rfl
          clear hq HN5
          go_wp2
          go_meet
          exact ⟨⟨R, 1, L.length, E, U, den, 1, rfl, by rw [HL1.out], rfl, HRd.out, hRl, by rw [HL1.out]; exact Nat.le_refl _, HD5.out, by rw [HL1.out]; omega, HN5b.out, hEl, HPe.out⟩⟩
    case rest =>
      obtain ⟨A, D, f, e, cnt, b, d, rfl, rfl, rfl, hAd, hAl, hd, hUD, hDl, hN, hel, hPL⟩ := hcut.ex
      have HAd := Lib.hid hAd
      have HUD := Lib.hid hUD
      have HN := Lib.hid hN
      have HPl := Lib.hid hPL
      clear hcut hAd hUD hN hPL
      obtain ⟨y0, y1, y2, yf, ylt⟩ := HN.out.p
      clear yf
      by_cases hg : e < L.length
      · have q1 : decide (e < L.length) = true := decide_eq_true hg
        have HE : Hid (parseL L = (nilR, e, 4)) := by unfold Hid; rw [HPl.out]; unfold tailP; rw [if_pos hg]
        have HNn : Hid (∀ n, NSt B g w.heap.size w (wc.drewN n) L e cnt) := fun n => HN.out.below (Below.drewN_refl _ _)
        have HFl := Lib.hid (fun n => (HNn.out n).fail HE.out)
        obtain ⟨r0, r1, r2, rf, rlt⟩ := HN.out.c
        go_wp2
        go_quiet (fail)
        go_wp2
        exact bodyPost_ret (v := .tuple #[.agg #[.bool false, .slice none 0 0, .slice none 0 0], .int .i64 4]) (by simp [results, Try.results29, go_sem, r0, r1, r2]) rfl (HFl.out _)
      · have q1 : decide (e < L.length) = false := decide_eq_false hg
        have HV := Lib.hid (fun wv => dValue (w := wv) HAd.out (by omega))
        have hNl : (limbs (valD A)).length ≤ 4001 := Nat.le_trans (limbs_len_dec (valD_lt A HAd.out)) (by omega)
        have HNn : Hid (∀ n, NSt B g w.heap.size w (wc.drewN n) L e cnt) := fun n => HN.out.below (Below.drewN_refl _ _)
        have HUn : Hid (∀ n, U32s (wc.drewN n) b (limbs D)) := fun n => HUD.out.below (Below.drewN_refl _ _)
        clear HN HUD
        go_wp2
        go_quiet (fail)
        go_wp2_with fail
        refine (HV.out _).mono ?_
        rintro e' w7 ⟨a7, c7, rfl, k1, k2, hb7⟩
        have HN7 := Lib.hid ((HNn.out _).below hb7)
        have HU7 := Lib.hid ((HUn.out _).below hb7)
        have HMk := Lib.hid (iMake neg c7 (limbs (valD A)).length k1 k2 (lval_limbs _) (Nat.le_refl _) (by omega))
        clear k1 k2 hb7 HNn HUn y0 y1 y2 ylt
        go_wp2_with fail
        refine HMk.out.mono ?_
        rintro e' w8 ⟨v8, rfl, i8, hb8⟩
        have HN8 := Lib.hid (HN7.out.below hb8)
        have HU8 := Lib.hid (HU7.out.below hb8)
        have HI8 := Lib.hid i8
        clear i8 hb8 HMk
        go_wp2_with fail
        refine (iMake false d (limbs D).length hd HU8.out (lval_limbs D) (Nat.le_refl _) (by omega)).mono ?_
        rintro e' w9 ⟨v9, rfl, i9, hb9⟩
        have HN9 := Lib.hid (HN8.out.below hb9)
        have HI8b := Lib.hid (HI8.out.below hb9)
        have HI9 := Lib.hid i9
        clear i9 hb9
        by_cases hD0 : D = 0
        · subst hD0
          have HMz := Lib.hid (rMake_zero HI8b.out HI9.out (by omega))
          go_wp2_with fail
          refine HMz.out.mono ?_
          rintro e' w10 ⟨v10, rfl, k10, hb10⟩
          have HN10 := Lib.hid (HN9.out.below hb10)
          obtain ⟨an, ad, cn, cd, rfl, m2, m3, m4, m5⟩ := k10.ex
          have M4 := Lib.hid m4
          have M5 := Lib.hid m5
          obtain ⟨r0, r1, r2, rf, rlt⟩ := HN10.out.c
          obtain ⟨y0, y1, y2, yf, ylt⟩ := HN10.out.p
          have f1 := yf 1
          have hgh : w.heap.size ≠ g := HN10.out.ne
          have hgh2 : g ≠ w.heap.size := fun e => hgh e.symm
          clear k10 hb10 m4 m5 yf
          have HNf := Lib.hid (HN10.out.only ((Only.refl g w10).setCell 1 (.int .i64 (f : Int))) (HN10.out.p.set1 f))
          have HPz : Hid (parseL L = (nilR, f, 3)) := by
            unfold Hid
            rw [HPl.out]
            unfold tailP
            rw [if_neg hg]
            simp only [if_true]
            rw [if_pos (by omega), Int.toNat_natCast]
          have HDn := Lib.hid (HNf.out.done (x := ⟨false, [], []⟩) m2 m3 (U32s.nil _ an) (U32s.nil _ ad) (.cells #[.bool false, .slice an 0 cn, .slice ad 0 cd] 25) (by rw [HPz.out]; rfl) (show (parseL L).2.2 = 3 by rw [HPz.out]) (fun _ => by rw [HPz.out]))
          go_wp2
          obtain ⟨⟨z0, z1, z2, zf, zlt⟩, hNP⟩ := HDn.out
          clear HDn
          simp only [List.length_nil] at z0 z1 z2 hNP
          generalize ((((w10.setCell ⟨g, 1, none⟩ (.int .i64 (f : Int))).setCell ⟨w.heap.size, 0, none⟩ (.bool false)).setCell ⟨w.heap.size, 1, none⟩ (.slice an 0 cn)).setCell ⟨w.heap.size, 2, none⟩ (.slice ad 0 cd)).alloc (.cells #[.bool false, .slice an 0 cn, .slice ad 0 cd] 25) = Y at *
          exact bodyPost_ret (v := .tuple #[.agg #[.bool false, .slice an 0 cn, .slice ad 0 cd], .int .i64 3]) (by simp [results, Try.results29, go_sem, z0, z1, z2]) rfl hNP
        · have HMp := Lib.hid (rMake HI8b.out HI9.out (by omega) (by omega) (by omega))
          go_wp2_with fail
          refine HMp.out.mono ?_
          rintro e' w10 ⟨v10, rfl, k10, hb10⟩
          have HN10 := Lib.hid (HN9.out.below hb10)
          generalize hX : ratL (mkRat (sgn ((neg && decide (valD A ≠ 0)) != (false && decide (D ≠ 0))) (valD A)) D) = X at *
          have HX := Lib.hid hX
          clear hX
          obtain ⟨an, ad, cn, cd, rfl, m2, m3, m4, m5⟩ := k10.ex
          have M4 := Lib.hid m4
          have M5 := Lib.hid m5
          obtain ⟨r0, r1, r2, rf, rlt⟩ := HN10.out.c
          obtain ⟨y0, y1, y2, yf, ylt⟩ := HN10.out.p
          have f1 := yf 1
          have hgh : w.heap.size ≠ g := HN10.out.ne
          have hgh2 : g ≠ w.heap.size := fun e => hgh e.symm
          clear k10 hb10 m4 m5 yf
          have HPz : Hid (parseL L = (X, 0, 0)) := by
            unfold Hid
            rw [HPl.out]
            unfold tailP
            rw [if_neg hg, if_neg hD0, if_neg (by omega), ← HX.out, sgn_andB]
          have HDn := Lib.hid (HN10.out.done m2 m3 M4.out M5.out (.cells #[.bool X.neg, .slice an X.num.length cn, .slice ad X.den.length cd] 25) (by rw [HPz.out]) (show (parseL L).2.2 = 0 by rw [HPz.out]) (fun h => absurd rfl h))
          go_wp2
          obtain ⟨⟨z0, z1, z2, zf, zlt⟩, hNP⟩ := HDn.out
          clear HDn
          generalize (((w10.setCell ⟨w.heap.size, 0, none⟩ (.bool X.neg)).setCell ⟨w.heap.size, 1, none⟩ (.slice an X.num.length cn)).setCell ⟨w.heap.size, 2, none⟩ (.slice ad X.den.length cd)).alloc (.cells #[.bool X.neg, .slice an X.num.length cn, .slice ad X.den.length cd] 25) = Y at *
          exact bodyPost_ret (v := .tuple #[.agg #[.bool X.neg, .slice an X.num.length cn, .slice ad X.den.length cd], .int .i64 0]) (by simp [results, Try.results29, go_sem, z0, z1, z2]) rfl hNP

end Go.Proofs.Ytfmhedfiklidhaa

/-
  The walk of decimal.Parse: by contract.
-/
namespace Go.Proofs.Ytfmhedfiklidhaa
open Go.RowKit

theorem Nil3.belowN {w W W' : World} {g n : Nat} (h : Nil3 w W g) (hb : Below n W W') (hn : g < n) : Nil3 w W' g :=
  ⟨⟨(hb.cell hn).trans h.c.c0, (hb.cell hn).trans h.c.c1, (hb.cell hn).trans h.c.c2, fun o => (hb.frozen hn).trans (h.c.free o), Nat.lt_of_lt_of_le h.c.lt hb.size⟩,
    fun o x e => h.nc o x ((hb.cell (p := ⟨g, o, none⟩) hn).symm.trans e), h.bl.trans (hb.mono (Nat.le_of_lt hn))⟩
theorem PBox.alloc (w : World) (L : List UInt8) (T : Nat) : PBox (w.alloc (.cells #[.string (Str L), .int .i64 0, .int .i64 0] T)) w.heap.size L 0 0 :=
  ⟨by rw [World.cell?_alloc_at _ _ _ _ rfl]; rfl, by rw [World.cell?_alloc_at _ _ _ _ rfl]; rfl, by rw [World.cell?_alloc_at _ _ _ _ rfl]; rfl, fun o => World.frozen?_alloc_new _ _ _ _, by simp⟩

theorem tail_cases {L : List UInt8} {neg : Bool} {g : Nat} {z : Int} {N D : Nat} : ((tailP L neg g z N D).2.2 = 0 → (tailP L neg g z N D).2.1 = 0) ∧ ((tailP L neg g z N D).2.2 ≠ 0 → (tailP L neg g z N D).1 = nilR) := by
  unfold tailP
  by_cases h1 : g < L.length
  · rw [if_pos h1]; exact ⟨fun h => absurd h (show (4 : Int) ≠ 0 by decide), fun _ => rfl⟩
  · by_cases h2 : 0 ≤ z
    · rw [if_neg h1, if_pos h2]; exact ⟨fun h => absurd h (show (3 : Int) ≠ 0 by decide), fun _ => rfl⟩
    · rw [if_neg h1, if_neg h2]; exact ⟨fun _ => rfl, fun h => absurd rfl h⟩
theorem rest_cases {L : List UInt8} {neg : Bool} {e : Nat} {R : List UInt8} : ((restP L neg e R).2.2 = 0 → (restP L neg e R).2.1 = 0) ∧ ((restP L neg e R).2.2 ≠ 0 → (restP L neg e R).1 = nilR) := by
  have hk : ∀ (a : Nat) (c : Int), c ≠ 0 → ((nilR, a, c).2.2 = 0 → (nilR, a, c).2.1 = 0) ∧ ((nilR, a, c).2.2 ≠ 0 → (nilR, a, c).1 = nilR) := fun a c hc => ⟨fun h => absurd h hc, fun _ => rfl⟩
  unfold restP
  by_cases c1 : e < L.length ∧ (L.getD e 0 = 47 ∨ L.getD e 0 = 46)
  · rw [if_pos c1]
    by_cases c2 : 4000 < R.length + (runD (L.drop (e + 1))).length
    · rw [if_pos c2]; exact hk _ _ (by decide)
    rw [if_neg c2]
    by_cases c3 : (runD (L.drop (e + 1))).length = 0
    · rw [if_pos c3]; exact hk _ _ (by decide)
    rw [if_neg c3]
    by_cases c4 : L.getD e 0 = 47
    · rw [if_pos c4]; exact tail_cases
    · rw [if_neg c4]; exact tail_cases
  · rw [if_neg c1]; exact tail_cases
theorem parse_cases {L : List UInt8} : ((parseL L).2.2 = 0 → (parseL L).2.1 = 0) ∧ ((parseL L).2.2 ≠ 0 → (parseL L).1 = nilR) := by
  have hk : ∀ (a : Nat) (c : Int), c ≠ 0 → ((nilR, a, c).2.2 = 0 → (nilR, a, c).2.1 = 0) ∧ ((nilR, a, c).2.2 ≠ 0 → (nilR, a, c).1 = nilR) := fun a c hc => ⟨fun h => absurd h hc, fun _ => rfl⟩
  unfold parseL
  by_cases c1 : 4000 < (runD (L.drop (fromP L))).length
  · rw [if_pos c1]; exact hk _ _ (by decide)
  rw [if_neg c1]
  by_cases c2 : (runD (L.drop (fromP L))).length = 0
  · rw [if_pos c2]; exact hk _ _ (by decide)
  rw [if_neg c2]
  exact rest_cases
theorem parse_ok0 {L : List UInt8} (h : (parseL L).2.2 = 0) : (parseL L).2.1 = 0 := parse_cases.1 h
theorem parse_err {L : List UInt8} (h : (parseL L).2.2 ≠ 0) : (parseL L).1 = nilR := parse_cases.2 h

set_option maxRecDepth 100000 in
set_option maxHeartbeats 3200000 in
theorem dParse {w : World} {L : List UInt8} (hL : L.length ≤ 100000) :
    Calls Try.prog 14 #[.string (Str L)] w (RetP w (parseL L)) := by
  have hsz := Str_size L
  have hF := Nil3.mk' w 25
  have hS : (w.alloc (.cells #[.bool false, .slice none 0 0, .slice none 0 0] 25)).heap.size = w.heap.size + 1 := by simp
  go_enter Try.func14, Try.ntmps14
  go_upto_region 1 with fail
  generalize w.alloc (.cells #[.bool false, .slice none 0 0, .slice none 0 0] 25) = W at *
  have hP := PBox.alloc W L 52
  have hF2 := hF.below ((Below.refl _ W).alloc (Nat.le_refl _) (.cells #[.string (Str L), .int .i64 0, .int .i64 0] 52))
  go_upto_region 2 with fail
  generalize W.alloc (.cells #[.string (Str L), .int .i64 0, .int .i64 0] 52) = W1 at *
  obtain ⟨g, hg⟩ : ∃ g, g = w.heap.size + 1 := ⟨_, rfl⟩
  rw [hS, ← hg] at hP
  rw [← hg]
  have HF := Lib.hid hF2
  have HP := Lib.hid hP
  have hgw : w.heap.size < g := by omega
  clear hF hF2 hP hg hS
  go_wp2_with fail
  refine (pNumber HP.out (Nat.le_refl _) hL).mono ?_
  rintro e w2 ⟨v, a, cnt, rfl, k1, hb2, hp2, hat⟩
  obtain ⟨r, hr⟩ : ∃ r, r = parseL L := ⟨_, rfl⟩
  rw [← hr] at k1 hat ⊢
  obtain ⟨x, ap, er⟩ := r
  have HR := Lib.hid hr
  have HF2 := Lib.hid (HF.out.belowN hb2 hgw)
  have HA := Lib.hid hat
  have HP2 := Lib.hid hp2
  obtain ⟨an, ad, cn, cd, rfl, h2, h3, h4, h5⟩ := k1.ex
  have hb3 : Below w2.heap.size w2 (w2.alloc (.cells #[.bool x.neg, .slice an x.num.length cn, .slice ad x.den.length cd] 25)) := (Below.refl _ w2).alloc (Nat.le_refl _) _
  have HF3 := Lib.hid (HF2.out.below hb3)
  have HP3 := Lib.hid (HP2.out.below hb3)
  have HBx := Lib.hid (Box3.alloc w2 (.bool x.neg) (.slice an x.num.length cn) (.slice ad x.den.length cd) 25)
  have H4 := Lib.hid (h4.below hb3)
  have H5 := Lib.hid (h5.below hb3)
  have hgh : w.heap.size ≠ w2.heap.size := by have := HF2.out.c.lt; omega
  have hgg : g ≠ w2.heap.size := by have := HP2.out.lt; omega
  clear hb3 k1 h4 h5 hp2 hat hb2 HF2 HP2 HP HF hr
  by_cases he : er = 0
  · subst he
    have hpos : ap = 0 := by have := parse_ok0 (L := L); rw [← HR.out] at this; exact this rfl
    subst hpos
    go_upto_region 3 with fail
    generalize w2.alloc (.cells #[.bool x.neg, .slice an x.num.length cn, .slice ad x.den.length cd] 25) = W3 at *
    obtain ⟨x0, x1, x2, xf, xlt⟩ := HBx.out
    obtain ⟨y0, y1, y2, yf, ylt⟩ := HF3.out.c
    have HS : Hid (Box3 (((W3.setCell ⟨w.heap.size, 0, none⟩ (.bool x.neg)).setCell ⟨w.heap.size, 1, none⟩ (.slice an x.num.length cn)).setCell ⟨w.heap.size, 2, none⟩ (.slice ad x.den.length cd)) w.heap.size (.bool x.neg) (.slice an x.num.length cn) (.slice ad x.den.length cd)) := HF3.out.c.store _ _ _
    have HV : Hid (RatV (((W3.setCell ⟨w.heap.size, 0, none⟩ (.bool x.neg)).setCell ⟨w.heap.size, 1, none⟩ (.slice an x.num.length cn)).setCell ⟨w.heap.size, 2, none⟩ (.slice ad x.den.length cd)) (.agg #[.bool x.neg, .slice an x.num.length cn, .slice ad x.den.length cd]) x) := RatV.store HF3.out.nc h2 h3 H4.out H5.out
    have HBl := Lib.hid (below_store3 HF3.out.bl (Nat.le_refl _) (.bool x.neg) (.slice an x.num.length cn) (.slice ad x.den.length cd))
    clear xf
    go_wp2
    obtain ⟨z0, z1, z2, zf, zlt⟩ := HS.out
    have hNP : RetP w (x, 0, 0) (.returned (.tuple #[.agg #[.bool x.neg, .slice an x.num.length cn, .slice ad x.den.length cd], .int .i64 0, .int .i64 0])) (((W3.setCell ⟨w.heap.size, 0, none⟩ (.bool x.neg)).setCell ⟨w.heap.size, 1, none⟩ (.slice an x.num.length cn)).setCell ⟨w.heap.size, 2, none⟩ (.slice ad x.den.length cd)) := ⟨_, rfl, HV.out, HBl.out⟩
    generalize ((W3.setCell ⟨w.heap.size, 0, none⟩ (.bool x.neg)).setCell ⟨w.heap.size, 1, none⟩ (.slice an x.num.length cn)).setCell ⟨w.heap.size, 2, none⟩ (.slice ad x.den.length cd) = Y at *
    rw [← HR.out]
    exact bodyPost_ret (v := .tuple #[.agg #[.bool x.neg, .slice an x.num.length cn, .slice ad x.den.length cd], .int .i64 0, .int .i64 0]) (by simp [results, Try.results14, go_sem, z0, z1, z2]) rfl hNP
  · have hx : x = nilR := by have := parse_err (L := L); rw [← HR.out] at this; exact this he
    have hap : a = ap := HA.out he
    subst hx hap
    have hq : (er != 0) = true := by rw [bne_iff_ne]; exact he
    go_upto_region 3 with fail
    generalize w2.alloc (.cells #[.bool nilR.neg, .slice an nilR.num.length cn, .slice ad nilR.den.length cd] 25) = W3 at *
    obtain ⟨y0, y1, y2, yf, ylt⟩ := HF3.out.c
    obtain ⟨x0, x1, x2, xf, xlt⟩ := HP3.out
    have HS : Hid (Box3 ((((W3.setCell ⟨w.heap.size, 0, none⟩ (.bool false)).setCell ⟨w.heap.size, 1, none⟩ (.slice none 0 0)).setCell ⟨w.heap.size, 2, none⟩ (.slice none 0 0)).drew) w.heap.size (.bool false) (.slice none 0 0) (.slice none 0 0)) := (HF3.out.c.store _ _ _).below (Below.refl _ _).drew
    have HBl := Lib.hid ((below_store3 HF3.out.bl (Nat.le_refl _) (.bool false) (.slice none 0 0) (.slice none 0 0)).drew)
    go_wp2
    go_region
    go_wp2
    obtain ⟨z0, z1, z2, zf, zlt⟩ := HS.out
    have hNP : RetP w (nilR, a, er) (.returned (.tuple #[.agg #[.bool false, .slice none 0 0, .slice none 0 0], .int .i64 (a : Int), .int .i64 er])) ((((W3.setCell ⟨w.heap.size, 0, none⟩ (.bool false)).setCell ⟨w.heap.size, 1, none⟩ (.slice none 0 0)).setCell ⟨w.heap.size, 2, none⟩ (.slice none 0 0)).drew) := ⟨_, rfl, nilV _, HBl.out⟩
    generalize (((W3.setCell ⟨w.heap.size, 0, none⟩ (.bool false)).setCell ⟨w.heap.size, 1, none⟩ (.slice none 0 0)).setCell ⟨w.heap.size, 2, none⟩ (.slice none 0 0)).drew = Y at *
    rw [← HR.out]
    exact bodyPost_ret (v := .tuple #[.agg #[.bool false, .slice none 0 0, .slice none 0 0], .int .i64 (a : Int), .int .i64 er]) (by simp [results, Try.results14, go_sem, z0, z1, z2]) rfl hNP

end Go.Proofs.Ytfmhedfiklidhaa

/-
  The walk of decimal.Fixed: by contract.
-/
namespace Go.Proofs.Ytfmhedfiklidhaa
open Go.RowKit

set_option maxRecDepth 100000 in
set_option maxHeartbeats 1600000 in
theorem dFixed_out {w : World} {v : Value} {x : RatL} (h : RatV w v x) (p : Int) (hp : p < 0 ∨ 4000 < p) :
    Calls Try.prog 17 #[v, .int .i64 p] w fun e w' => e = .returned (.tuple #[.string (Str []), .int .i64 2]) ∧ Below w.heap.size w w' := by
  obtain ⟨an, ad, cn, cd, rfl, h2, h3, h4, h5⟩ := h.ex
  clear h h4 h5
  by_cases h0 : p < 0
  · have g1 : decide (p < 0) = true := decide_eq_true h0
    clear hp
    go_enter Try.func17, Try.ntmps17
    go_wp2
    go_ret2
    exact ⟨rfl, (Below.refl _ _).alloc (Nat.le_refl _) _⟩
  · have g1 : decide (p < 0) = false := decide_eq_false h0
    have g2 : decide (4000 < p) = true := decide_eq_true (by omega)
    clear hp
    go_enter Try.func17, Try.ntmps17
    go_wp2
    go_ret2
    exact ⟨rfl, (Below.refl _ _).alloc (Nat.le_refl _) _⟩

/-- Quotient and rest. -/
def CutQ (w1 wx : World) (q r : Nat) (s7 s8 : Value) : Prop :=
  ∃ (a b : Option Addr) (c d : Nat), s7 = .slice a (limbs q).length c ∧ s8 = .slice b (limbs r).length d ∧ (limbs q).length ≤ c ∧ (limbs r).length ≤ d ∧ U32s wx a (limbs q) ∧ U32s wx b (limbs r) ∧ Below w1.heap.size w1 wx
/-- Behind the rounding. -/
def CutF (w0 wx : World) (Q : Nat) (s7 : Value) : Prop :=
  ∃ (a : Option Addr) (c : Nat), s7 = .slice a (limbs Q).length c ∧ (limbs Q).length ≤ c ∧ U32s wx a (limbs Q) ∧ Below w0.heap.size w0 wx
/-- Behind the zeros ahead, or the point. -/
def CutG (w0 wx : World) (S : List UInt8) (s10 : Value) : Prop := s10 = .string (Str S) ∧ Below w0.heap.size w0 wx
theorem cmpN_ge0 {x y : Nat} (h : y ≤ x) : decide (0 ≤ cmpN x y) = true := by unfold cmpN; split <;> (try split) <;> first | omega | decide
theorem cmpN_lt0 {x y : Nat} (h : x < y) : decide (0 ≤ cmpN x y) = false := by unfold cmpN; split <;> (try split) <;> first | omega | decide

set_option maxRecDepth 100000 in
set_option maxHeartbeats 3200000 in
theorem dFixed {w : World} {v : Value} {x : RatL} (h : RatV w v x) (hcan : canonL x = x) (hr1 : x.num.length ≤ 10000) (hr2 : x.den.length ≤ 10000) (p : Nat) (hp : p ≤ 4000) :
    Calls Try.prog 17 #[v, .int .i64 (p : Int)] w fun e w' => e = .returned (.tuple #[.string (Str (fixedL x.neg (lval x.num) (underN x.den) p)), .int .i64 0]) ∧ Below w.heap.size w w' := by
  have hv := h
  obtain ⟨an, ad, cn, cd, rfl, h2, h3, h4, h5⟩ := h.ex
  have hb0 : Below w.heap.size w (w.alloc (.cells #[.bool x.neg, .slice an x.num.length cn, .slice ad x.den.length cd] 25)) := (Below.refl _ w).alloc (Nat.le_refl _) _
  have hbx := Box3.alloc w (.bool x.neg) (.slice an x.num.length cn) (.slice ad x.den.length cd) 25
  have HN := Lib.hid (h4.below hb0)
  have HDen := Lib.hid (rDen (hv.below hb0) hcan (by omega) (by omega))
  have HB := Lib.hid hb0
  have HBx := Lib.hid hbx
  obtain ⟨N, hN⟩ : ∃ N, N = lval x.num := ⟨_, rfl⟩
  obtain ⟨D, hD⟩ : ∃ D, D = underN x.den := ⟨_, rfl⟩
  have hNb : (limbs N).length ≤ 10000 := by rw [hN]; exact Nat.le_trans (limbs_len_of_lval h4.lim) hr1
  have HNv : Hid (lval x.num = N) := hN.symm
  have hDp : 0 < D := by rw [hD]; exact underN_pos _
  have hDl : (limbs D).length ≤ 10001 := by
    rw [hD]; unfold underN
    split
    · rw [limbs_one]; simp
    · exact Nat.le_trans (limbs_len_of_lval h5.lim) (by omega)
  obtain ⟨TX, hTX⟩ : ∃ TX, TX = fixedL x.neg N D p := ⟨_, rfl⟩
  rw [← hN, ← hD, ← hTX]
  rw [← hD] at HDen
  have HTX : Hid (TX = (if x.neg && decide (roundQ N D p ≠ 0) then [45] else []) ++ dotL p (padZ (p + 1) (digN (roundQ N D p)))) := hTX
  have HRQ : Hid (roundQ N D p = if D ≤ N * 10 ^ p % D + N * 10 ^ p % D then N * 10 ^ p / D + 1 else N * 10 ^ p / D) := round_half _ _ hDp
  have H1 : Hid (∀ wv, Calls Try.prog 45 #[.int .u64 1] wv (RetN wv 1)) := fun wv => nOf 1 (by decide) wv
  have HRep : Hid (∀ (k : Nat) (wv : World), k ≤ 4001 → Calls Try.prog 42 #[.string ⟨#[48]⟩, .int .i64 (k : Int)] wv fun e w' => e = .returned (.string (Str (List.replicate k 48))) ∧ Below wv.heap.size wv w') := fun k wv hk => by
    have h := Try.strings_Repeat (⟨#[48]⟩ : ByteArray) k wv (by omega) (by show 1 * k ≤ _; omega)
    refine h.mono ?_
    rintro e w' ⟨rfl, hb⟩
    refine ⟨?_, hb⟩
    have : Lib.repeatL [(48 : UInt8)] k = List.replicate k 48 := repeat_one 48 k
    show Ending.returned (.string ⟨(Lib.repeatL [(48 : UInt8)] k).toArray⟩) = _
    rw [this]; rfl
  have HV : Hid (∀ wv : World, Calls Try.prog 41 #[.string (Str (49 :: List.replicate p 48))] wv (RetN wv (10 ^ p))) := fun wv => by
    rw [← valD_ten]
    refine dValue (fun c hc => ?_) (by simp; omega)
    rcases List.mem_cons.1 hc with rfl | h
    · decide
    · rw [List.eq_of_mem_replicate h]; decide
  have hadd2 := fun (wv : World) => add_run' (P := Try.prog) 49 (List.replicate p 48) (by rw [List.length_replicate]; omega) wv
  have g1 : decide ((p : Int) < 0) = false := decide_eq_false (by omega)
  have g2 : decide (4000 < (p : Int)) = false := decide_eq_false (by omega)
  have hTl := limbs_pow10 p
  have hNT : (limbs (N * 10 ^ p)).length ≤ 14001 := Nat.le_trans (limbs_mul_le _ _) (by omega)
  clear h hv h4 h5 hb0 hbx hN hD hTX hcan
  go_enter Try.func17, Try.ntmps17
  go_upto_region 1 with fail
  generalize w.alloc (.cells #[.bool x.neg, .slice an x.num.length cn, .slice ad x.den.length cd] 25) = W at *
  obtain ⟨x0, x1, x2, _, xlt⟩ := HBx.out
  go_wp2_with fail
  refine HDen.out.mono ?_
  rintro e w1 ⟨a1, c1, rfl, k1, k2, hb1⟩
  have HB1 := Lib.hid (HB.out.trans (hb1.mono HB.out.size))
  have HX1 := Lib.hid (HBx.out.below hb1)
  have HN1 := Lib.hid (HN.out.below hb1)
  have HD1 := Lib.hid k2
  have HK1 := Lib.hid k1
  clear k1 k2 hb1 HN HBx HB HDen x0 x1 x2 xlt
  obtain ⟨x0, x1, x2, _, xlt⟩ := HX1.out
  generalize roundQ N D p = Q at *
  generalize 10 ^ p = T at *
  have hTp : 0 < D := hDp
  obtain ⟨q, hq⟩ : ∃ q, q = N * T / D := ⟨_, rfl⟩
  obtain ⟨r, hr⟩ : ∃ r, r = N * T % D := ⟨_, rfl⟩
  have hql : (limbs q).length ≤ 14001 := by rw [hq]; exact Nat.le_trans (limbs_len_mono (Nat.div_le_self _ _)) hNT
  have hrl : (limbs r).length ≤ 10001 := by rw [hr]; exact Nat.le_trans (limbs_len_mono (Nat.le_of_lt (Nat.mod_lt _ hDp))) hDl
  have HQR : Hid (N * T / D = q ∧ N * T % D = r) := ⟨hq.symm, hr.symm⟩
  rw [← hq, ← hr] at HRQ
  clear hq hr
  go_upto_region 4 with fail
  go_cut [7, 8] (fun s7 s8 wx => CutQ w1 wx q r s7 s8)
  case first =>
    have xbl : Below w1.heap.size w1 w1.drew := (Below.refl _ _).drew
    go_region_held3 (fun w' => w'.cell? ⟨w.heap.size, 1, none⟩ = some (.slice an x.num.length cn))
      (first | exact x1 | exact (‹Below w1.heap.size w1 _›.cell (p := ⟨w.heap.size, 1, none⟩) xlt).trans x1)
      (first
        | (go_at_call 42; have hS := ‹Below w1.heap.size w1 _›; refine (HRep.out p _ (by omega)).mono ?_; rintro e w3 ⟨rfl, hb3⟩; have hS3 := hS.trans (hb3.mono hS.size))
        | (go_at_call 41; have hS := ‹Below w1.heap.size w1 _›; refine (HV.out _).mono ?_; rintro e w4 ⟨a4, c4, rfl, k3, k4, hb4⟩; have hS4 := hS.trans (hb4.mono hS.size); have K4 := Lib.hid k4; have K3 := Lib.hid k3; clear k4 k3)
        | (go_at_call 40; have hS := ‹Below w1.heap.size w1 _›; refine (nMul cn c4 h2 K3.out (HN1.out.below hS) K4.out HNv.out (lval_limbs T) (by omega)).mono ?_; rintro e w5 ⟨a5, c5, rfl, k5, k6, hb5⟩; have hS5 := hS.trans (hb5.mono hS.size); have K6 := Lib.hid k6; have K5 := Lib.hid k5; clear k6 k5)
        | (go_at_call 39; have hS := ‹Below w1.heap.size w1 _›; refine (nDivMod c5 c1 K5.out HK1.out K6.out (HD1.out.below hS) (lval_limbs (N * T)) (lval_limbs D) (by omega) hDp).mono ?_; rintro e w6 ⟨a7, c7, a8, c8, rfl, k7, k8, k9, k10, hb6⟩; have hS6 := hS.trans (hb6.mono hS.size); rw [HQR.out.1] at k7 k9 ⊢; rw [HQR.out.2] at k8 k10 ⊢; have K7 := Lib.hid k7; have K8 := Lib.hid k8; have K9 := Lib.hid k9; have K10 := Lib.hid k10; clear k7 k8 k9 k10))
    all_goals
      go_wp2
      go_meet
      exact ⟨a7, a8, c7, c8, rfl, rfl, K7.out, K8.out, K9.out, K10.out, hS6⟩
  case rest =>
    obtain ⟨a7, a8, c7, c8, rfl, rfl, k7, k8, k9, k10, hbc⟩ := hcut
    have HBc := Lib.hid (HB1.out.trans (hbc.mono HB1.out.size))
    have HXc := Lib.hid (HX1.out.below hbc)
    have HDc := Lib.hid (HD1.out.below hbc)
    have HAd := Lib.hid (nAdd c8 c8 k8 k8 k10 k10 (lval_limbs r) (lval_limbs r) (by omega))
    have K7 := Lib.hid k7
    have K9 := Lib.hid k9
    clear k7 k8 k9 k10 hbc x0 x1 x2 xlt HN1 HX1 HD1 HQR HV hadd2
    go_wp2_with fail
    refine HAd.out.mono ?_
    rintro e w3 ⟨a9, c9, rfl, k1, k2, hb3⟩
    have HB3 := Lib.hid (HBc.out.trans (hb3.mono HBc.out.size))
    have HX3 := Lib.hid (HXc.out.below hb3)
    have HC3 := Lib.hid (nCmp c9 c1 k1 HK1.out k2 (HDc.out.below hb3) (lval_limbs (r + r)) (lval_limbs D))
    have HQ3 := Lib.hid (K9.out.below hb3)
    clear k1 k2 hb3 HAd HBc HXc HDc K9
    go_wp2_with fail
    refine HC3.out.mono ?_
    rintro e w4 ⟨rfl, n4, hw4⟩
    have hb4 : Below w3.heap.size w3 w4 := by subst hw4; exact Below.drewN_refl _ _
    have HB4 := Lib.hid (HB3.out.trans (hb4.mono HB3.out.size))
    have HX4 := Lib.hid (HX3.out.below hb4)
    have HQ4 := Lib.hid (HQ3.out.below hb4)
    clear hw4 hb4 HC3 HB3 HX3 HQ3
    have hQl : (limbs Q).length ≤ 14002 := by
      have := HRQ.out
      by_cases hge : D ≤ r + r
      · rw [this, if_pos hge]; exact limbs_add_le q 1 14001 hql (by rw [limbs_one]; simp)
      · rw [this, if_neg hge]; omega
    go_upto_if 37 with fail
    go_cut [7] (fun s7 wx => CutF w4 wx Q s7)
    case first =>
      by_cases hge : D ≤ r + r
      · have q1 := cmpN_ge0 hge
        have HE : Hid (Q = q + 1) := by have := HRQ.out; rw [if_pos hge] at this; exact this
        clear hge
        rw [q1]
        go_wp2_with fail
        refine (H1.out _).mono ?_
        rintro e w5 ⟨a5, c5, rfl, k1, k2, hb5⟩
        have HB5 := Lib.hid hb5
        have HA5 := Lib.hid (nAdd c7 c5 K7.out k1 (HQ4.out.below hb5) k2 (lval_limbs q) (lval_limbs 1) (by rw [limbs_one]; simp; omega))
        clear k1 k2 hb5
        go_wp2_with fail
        refine HA5.out.mono ?_
        rintro e w6 ⟨a6, c6, rfl, k1, k2, hb6⟩
        have HB6 := Lib.hid (HB5.out.trans (hb6.mono HB5.out.size))
        have HK := Lib.hid k1
        have HU := Lib.hid k2
        clear k1 k2 hb6 HA5
        go_wp2
        go_meet
        rw [HE.out]
        exact ⟨a6, c6, rfl, HK.out, HU.out, HB6.out⟩
      · have q1 := cmpN_lt0 (Nat.lt_of_not_le hge)
        have HE : Hid (Q = q) := by have := HRQ.out; rw [if_neg hge] at this; exact this
        clear hge
        rw [q1]
        go_wp2
        go_meet
        rw [HE.out]
        exact ⟨a7, c7, rfl, K7.out, HQ4.out, Below.refl _ _⟩
    case rest =>
      obtain ⟨a6, c6, rfl, k1, k2, hb6⟩ := hcut
      have hqd : nd Q ≤ 140020 := Nat.le_trans (nd_limbs (limbs_len_lt _)) (by omega)
      have HDg := Lib.hid (dDigits c6 k1 k2 (lval_limbs Q) (by omega))
      have HX6 := Lib.hid (HX4.out.below hb6)
      have HB6 := Lib.hid (HB4.out.trans (hb6.mono HB4.out.size))
      have K6 := Lib.hid k1
      have HQ6 := Lib.hid k2
      clear k1 k2 hb6 HX4 HB4 HQ4 K7 HRQ
      go_wp2_with fail
      refine HDg.out.mono ?_
      rintro e w7 ⟨rfl, hb7⟩
      have HB7 := Lib.hid (HB6.out.trans (hb7.mono HB6.out.size))
      have HX7 := Lib.hid (HX6.out.below hb7)
      have HQ7 := Lib.hid (HQ6.out.below hb7)
      have hdl : (digN Q).length ≤ 140041 := by rw [digN_len]; split <;> omega
      have hdp := digN_pos Q
      clear hb7 HDg HX6 HB6 HQ6
      generalize hS0 : digN Q = S0 at *
      have hsz := Str_size S0
      go_upto_if 46 with fail
      go_cut [10] (fun s10 wx => CutG w7 wx (padZ (p + 1) S0) s10)
      case first =>
        by_cases hle : S0.length ≤ p
        · have q1 : decide (S0.length ≤ p) = true := decide_eq_true hle
          have hsub : (p : Int) + 1 - (S0.length : Int) = ((p + 1 - S0.length : Nat) : Int) := by omega
          have hadd := fun (wv : World) => add_run (P := Try.prog) (List.replicate (p + 1 - S0.length) 48) S0 (by rw [List.length_replicate]; omega) wv
          have hk : p + 1 - S0.length ≤ 4001 := by omega
          have HE : Hid (List.replicate (p + 1 - S0.length) 48 ++ S0 = padZ (p + 1) S0) := rfl
          generalize p + 1 - S0.length = k at *
          rw [q1]
          go_wp2_with fail
          refine (HRep.out k _ hk).mono ?_
          rintro e w8 ⟨rfl, hb8⟩
          have HB8 := Lib.hid hb8
          clear hb8
          go_wp2
          go_meet
          exact ⟨by rw [HE.out], HB8.out⟩
        · have q1 : decide (S0.length ≤ p) = false := decide_eq_false hle
          have HE : Hid (S0 = padZ (p + 1) S0) := by unfold Hid padZ; rw [show p + 1 - S0.length = 0 by omega]; rfl
          clear hle
          rw [q1]
          go_wp2
          go_meet
          exact ⟨by rw [← HE.out], Below.refl _ _⟩
      case rest =>
        obtain ⟨rfl, hb8⟩ := hcut
        have hSl : (padZ (p + 1) S0).length = max (p + 1) S0.length := padZ_len _ _
        have HB8 := Lib.hid (HB7.out.trans (hb8.mono HB7.out.size))
        have HX8 := Lib.hid (HX7.out.below hb8)
        have HQ8 := Lib.hid (HQ7.out.below hb8)
        clear hb8 HB7 HX7 HQ7 hsz
        generalize padZ (p + 1) S0 = S at *
        obtain ⟨m, hm⟩ : ∃ m, m = S.length := ⟨_, rfl⟩
        have hm1 : p < m := by omega
        have hm2 : m ≤ 200000 := by omega
        have hsz := Str_size S
        rw [← hm] at hsz
        have HM := Lib.hid hm
        clear hSl hm hS0
        go_upto_if 56 with fail
        go_cut [10] (fun s10 wx => CutG wc wx (dotL p S) s10)
        case first =>
          by_cases hp0 : p = 0
          · have q2 : decide (0 < p) = false := decide_eq_false (by omega)
            have HE : Hid (dotL p S = S) := by unfold Hid dotL; rw [if_pos hp0]
            clear hp0
            rw [q2]
            go_wp2
            go_meet
            exact ⟨by rw [HE.out], Below.refl _ _⟩
          · have q2 : decide (0 < p) = true := decide_eq_true (by omega)
            have HE : Hid (dotL p S = S.take (m - p) ++ 46 :: S.drop (m - p)) := by unfold Hid dotL; rw [if_neg hp0, HM.out]
            have e1 : (Str S).extract 0 (m - p) = Str (S.take (m - p)) := by rw [Str_extract, List.drop_zero, Nat.sub_zero]
            have e2 : (Str S).extract (m - p) m = Str (S.drop (m - p)) := by
              rw [Str_extract, List.take_of_length_le (by rw [List.length_drop, ← HM.out]; exact Nat.le_refl _)]
            have hA : (S.take (m - p)).length ≤ 200000 := by rw [List.length_take]; omega
            have hB : (S.drop (m - p)).length ≤ 200000 := by rw [List.length_drop, ← HM.out]; omega
            have ha1 := fun (wv : World) => add_runR (P := Try.prog) (S.take (m - p)) 46 (by omega) wv
            have ha2 := fun (wv : World) => add_run (P := Try.prog) (S.take (m - p) ++ [46]) (S.drop (m - p)) (by simp at hA hB ⊢; omega) wv
            have hsub : (m : Int) - (p : Int) = ((m - p : Nat) : Int) := by omega
            have hsubw : IntKind.i64.wrap ((m : Int) - (p : Int)) = ((m - p : Nat) : Int) := by rw [hsub]; exact IntWalk.i64_in _ (by omega)
            generalize S.take (m - p) = A at *
            generalize S.drop (m - p) = B at *
            have hsb : m - p ≤ m := Nat.sub_le _ _
            generalize m - p = mp at *
            clear hp0
            rw [q2]
            go_wp2
            go_quiet (fail)
            go_wp2
            go_meet
            exact ⟨by rw [HE.out], Below.drewN_refl _ _⟩
        case rest =>
          obtain ⟨rfl, hb9⟩ := hcut
          have HB9 := Lib.hid (HB8.out.trans (hb9.mono HB8.out.size))
          have HX9 := Lib.hid (HX8.out.below hb9)
          have HQ9 := Lib.hid (HQ8.out.below hb9)
          have hdo : (dotL p S).length ≤ m + 1 := by
            unfold dotL
            split
            · rw [← HM.out]; omega
            · rw [List.length_append, List.length_cons, List.length_take, List.length_drop, ← HM.out]; omega
          clear hb9 HB8 HX8 HQ8 hsz
          generalize dotL p S = E at *
          have hadd := fun (wv : World) => add_run' (P := Try.prog) 45 E (by omega) wv
          obtain ⟨x0, x1, x2, _, xlt⟩ := HX9.out
          cases hn : x.neg with
          | false =>
            rw [hn] at x0 HTX
            have HE : Hid (TX = E) := HTX
            have HNg := Lib.hid hn
            clear hn
            go_wp2
            go_ret2
            exact ⟨ret_str2 HE.out.symm, HB9.out⟩
          | true =>
            rw [hn] at x0 HTX
            have HNg := Lib.hid hn
            clear hn
            by_cases hQ0 : Q = 0
            · have HE : Hid (TX = E) := by
                unfold Hid; rw [HTX.out, hQ0]; rfl
              have HBi := Lib.hid (nBits_zero c6 K6.out HQ9.out (by rw [lval_limbs, hQ0]))
              clear hQ0
              go_wp2_with fail
              refine HBi.out.mono ?_
              rintro e w10 ⟨rfl, hw⟩
              subst hw
              go_wp2
              go_ret2
              exact ⟨ret_str2 HE.out.symm, HB9.out⟩
            · have HE : Hid (TX = 45 :: E) := by
                unfold Hid; rw [HTX.out, decide_eq_true hQ0]; rfl
              have HBi := Lib.hid (nBits_pos c6 K6.out HQ9.out (lval_limbs Q) hQ0 (by omega))
              clear hQ0
              go_wp2_with fail
              refine HBi.out.mono ?_
              rintro e w10 ⟨⟨n, rfl, hn0, hn1⟩, hw⟩
              subst hw
              have q3 : decide (0 < n) = true := decide_eq_true hn0
              go_wp2
              go_ret2
              exact ⟨ret_str2 HE.out.symm, HB9.out⟩

end Go.Proofs.Ytfmhedfiklidhaa

/-
  Layer 4's statements: frac, awake, fair: by contract.
-/
namespace Go.Proofs.Ytfmhedfiklidhaa
open Go.RowKit

theorem ex_text : textL (ratL (((-6 : Int) : Rat) / ((8 : Int) : Rat))) = [45, 51, 47, 52] := by decide +kernel
theorem ex_parse : parseL [48, 46, 49, 50, 53] = (ratL (((1 : Int) : Rat) / ((8 : Int) : Rat)), 0, 0) := by decide +kernel
theorem ex_fixed : fixedL (ratL (((-1 : Int) : Rat) / ((8 : Int) : Rat))).neg (lval (ratL (((-1 : Int) : Rat) / ((8 : Int) : Rat))).num) (underN (ratL (((-1 : Int) : Rat) / ((8 : Int) : Rat))).den) 2 = [45, 48, 46, 49, 51] := by decide +kernel
theorem ex_short : ∀ a ∈ [(-1 : Int), -6, 1], (ratL ((a : Rat) / ((8 : Int) : Rat))).num.length ≤ 10000 ∧ (ratL ((a : Rat) / ((8 : Int) : Rat))).den.length ≤ 10000 := by decide +kernel

set_option maxRecDepth 100000 in
set_option maxHeartbeats 1600000 in
theorem lFrac (w : World) (a b : Int) (a1 : -9223372036854775808 ≤ a) (a2 : a ≤ 9223372036854775807) (b1 : -9223372036854775808 ≤ b) (b2 : b ≤ 9223372036854775807) (hb0 : b ≠ 0) :
    Calls Try.prog 25 #[.int .i64 a, .int .i64 b] w (RetR w (ratL ((a : Rat) / (b : Rat)))) := by
  have hF := Nil3.mk' w 25
  have HC := Lib.hid (fun wv => r3Frac wv a b a1 a2 b1 b2 hb0)
  go_enter Try.func25, Try.ntmps25
  go_upto_region 1 with fail
  generalize w.alloc (.cells #[.bool false, .slice none 0 0, .slice none 0 0] 25) = W at *
  have HF := Lib.hid hF
  clear hF a1 a2 b1 b2 hb0
  go_wp2_with fail
  refine (HC.out _).mono ?_
  rintro e w1 ⟨v, rfl, k1, hb1⟩
  obtain ⟨an, ad, cn, cd, rfl, h2, h3, h4, h5⟩ := k1.ex
  generalize ratL ((a : Rat) / (b : Rat)) = x at *
  have hb3 : Below w1.heap.size w1 (w1.alloc (.cells #[.bool x.neg, .slice an x.num.length cn, .slice ad x.den.length cd] 25)) := (Below.refl _ w1).alloc (Nat.le_refl _) _
  have HF1 := HF.out.below hb1
  have HF3 := Lib.hid (HF1.below hb3)
  have HBx := Lib.hid (Box3.alloc w1 (.bool x.neg) (.slice an x.num.length cn) (.slice ad x.den.length cd) 25)
  have H4 := Lib.hid (h4.below hb3)
  have H5 := Lib.hid (h5.below hb3)
  have hgh : w.heap.size ≠ w1.heap.size := by have := HF1.c.lt; omega
  clear hb3 k1 h4 h5 hb1 HF HF1 HC
  go_upto_region 2 with fail
  generalize w1.alloc (.cells #[.bool x.neg, .slice an x.num.length cn, .slice ad x.den.length cd] 25) = W3 at *
  obtain ⟨x0, x1, x2, xf, xlt⟩ := HBx.out
  obtain ⟨y0, y1, y2, yf, ylt⟩ := HF3.out.c
  have HS : Hid (Box3 (((W3.setCell ⟨w.heap.size, 0, none⟩ (.bool x.neg)).setCell ⟨w.heap.size, 1, none⟩ (.slice an x.num.length cn)).setCell ⟨w.heap.size, 2, none⟩ (.slice ad x.den.length cd)) w.heap.size (.bool x.neg) (.slice an x.num.length cn) (.slice ad x.den.length cd)) := HF3.out.c.store _ _ _
  have HV : Hid (RatV (((W3.setCell ⟨w.heap.size, 0, none⟩ (.bool x.neg)).setCell ⟨w.heap.size, 1, none⟩ (.slice an x.num.length cn)).setCell ⟨w.heap.size, 2, none⟩ (.slice ad x.den.length cd)) (.agg #[.bool x.neg, .slice an x.num.length cn, .slice ad x.den.length cd]) x) := RatV.store HF3.out.nc h2 h3 H4.out H5.out
  have HBl := Lib.hid (below_store3 HF3.out.bl (Nat.le_refl _) (.bool x.neg) (.slice an x.num.length cn) (.slice ad x.den.length cd))
  clear xf
  go_wp2
  obtain ⟨z0, z1, z2, zf, zlt⟩ := HS.out
  have hNP : RetR w x (.returned (.agg #[.bool x.neg, .slice an x.num.length cn, .slice ad x.den.length cd])) (((W3.setCell ⟨w.heap.size, 0, none⟩ (.bool x.neg)).setCell ⟨w.heap.size, 1, none⟩ (.slice an x.num.length cn)).setCell ⟨w.heap.size, 2, none⟩ (.slice ad x.den.length cd)) := ⟨_, rfl, HV.out, HBl.out⟩
  generalize ((W3.setCell ⟨w.heap.size, 0, none⟩ (.bool x.neg)).setCell ⟨w.heap.size, 1, none⟩ (.slice an x.num.length cn)).setCell ⟨w.heap.size, 2, none⟩ (.slice ad x.den.length cd) = Y at *
  exact bodyPost_ret (v := .agg #[.bool x.neg, .slice an x.num.length cn, .slice ad x.den.length cd]) (by simp [results, Try.results25, go_sem, z0, z1, z2]) rfl hNP

def fairR (x : RatL) : Bool := decide (x.num.length ≤ 8) && (decide (x.den.length ≤ 8) && validR x)
set_option maxRecDepth 100000 in
set_option maxHeartbeats 1600000 in
theorem lFair {w : World} {v : Value} {x : RatL} (hv : RatV w v x) :
    Calls Try.prog 11 #[v] w fun e w' => e = .returned (.bool (fairR x)) ∧ Below w.heap.size w w' := by
  obtain ⟨an, ad, cn, cd, rfl, h2, h3, h4, h5⟩ := hv.ex
  have hb0 : Below w.heap.size w (w.alloc (.cells #[.bool x.neg, .slice an x.num.length cn, .slice ad x.den.length cd] 25)) := (Below.refl _ w).alloc (Nat.le_refl _) _
  have hbx := Box3.alloc w (.bool x.neg) (.slice an x.num.length cn) (.slice ad x.den.length cd) 25
  have HV := Lib.hid (hv.below hb0)
  have HB := Lib.hid hb0
  have l1 := h4.len
  have l2 := h5.len
  by_cases c1 : x.num.length ≤ 8
  · by_cases c2 : x.den.length ≤ 8
    · have HC := Lib.hid (r3Valid HV.out ⟨by omega, by omega⟩)
      have HR : Hid (fairR x = validR x) := by unfold Hid fairR; rw [decide_eq_true c1, decide_eq_true c2]; rfl
      have q1 : decide (x.num.length ≤ 8) = true := decide_eq_true c1
      have q2 : decide (x.den.length ≤ 8) = true := decide_eq_true c2
      clear hv h4 h5 hb0
      generalize fairR x = R at *
      generalize validR x = V at *
      go_enter Try.func11, Try.ntmps11
      go_upto_region 1 with fail
      generalize w.alloc (.cells #[.bool x.neg, .slice an x.num.length cn, .slice ad x.den.length cd] 25) = W at *
      obtain ⟨x0, x1, x2, _, xlt⟩ := hbx
      go_wp2_with fail
      refine HC.out.mono ?_
      rintro e w1 ⟨rfl, hb1⟩
      have HB1 := Lib.hid (HB.out.trans (hb1.mono HB.out.size))
      clear hb1
      go_wp2
      go_ret
      exact ⟨ret_bool HR.out.symm, HB1.out⟩
    · have HR : Hid (fairR x = false) := by unfold Hid fairR; rw [decide_eq_false c2, Bool.false_and, Bool.and_false]
      have q1 : decide (x.num.length ≤ 8) = true := decide_eq_true c1
      have q2 : decide (x.den.length ≤ 8) = false := decide_eq_false c2
      clear hv h4 h5 hb0
      generalize fairR x = R at *
      go_enter Try.func11, Try.ntmps11
      go_upto_region 1 with fail
      generalize w.alloc (.cells #[.bool x.neg, .slice an x.num.length cn, .slice ad x.den.length cd] 25) = W at *
      obtain ⟨x0, x1, x2, _, xlt⟩ := hbx
      go_wp2
      go_ret
      exact ⟨ret_bool HR.out.symm, HB.out⟩
  · have HR : Hid (fairR x = false) := by unfold Hid fairR; rw [decide_eq_false c1, Bool.false_and]
    have q1 : decide (x.num.length ≤ 8) = false := decide_eq_false c1
    clear hv h4 h5 hb0
    generalize fairR x = R at *
    go_enter Try.func11, Try.ntmps11
    go_upto_region 1 with fail
    generalize w.alloc (.cells #[.bool x.neg, .slice an x.num.length cn, .slice ad x.den.length cd] 25) = W at *
    obtain ⟨x0, x1, x2, _, xlt⟩ := hbx
    go_wp2
    go_ret
    exact ⟨ret_bool HR.out.symm, HB.out⟩

set_option maxRecDepth 100000 in
set_option maxHeartbeats 3200000 in
theorem lAwake (w : World) : Calls Try.prog 10 #[] w fun e w' => e = .returned (.bool true) ∧ Below w.heap.size w w' := by
  have HP : Hid (Calls Try.prog 14 #[.string ⟨#[48, 46, 49, 50, 53]⟩] w (RetP w (ratL (((1 : Int) : Rat) / ((8 : Int) : Rat)), 0, 0))) := by
    have h := dParse (w := w) (L := [48, 46, 49, 50, 53]) (by decide)
    rw [ex_parse] at h
    exact h
  have HF1 := Lib.hid (fun wv => lFrac wv (-1) 8 (by decide) (by decide) (by decide) (by decide) (by decide))
  have HF2 := Lib.hid (fun wv => lFrac wv (-6) 8 (by decide) (by decide) (by decide) (by decide) (by decide))
  have HF3 := Lib.hid (fun wv => lFrac wv 1 8 (by decide) (by decide) (by decide) (by decide) (by decide))
  have HX : Hid (∀ (wv : World) (v : Value), RatV wv v (ratL (((-1 : Int) : Rat) / ((8 : Int) : Rat))) → Calls Try.prog 17 #[v, .int .i64 2] wv fun e w' => e = .returned (.tuple #[.string ⟨#[45, 48, 46, 49, 51]⟩, .int .i64 0]) ∧ Below wv.heap.size wv w') := fun wv v hv => by
    have h := dFixed hv (valid_ratL _).symm (ex_short (-1) (by simp)).1 (ex_short (-1) (by simp)).2 2 (by decide)
    rw [ex_fixed] at h
    exact h
  have HT : Hid (∀ (wv : World) (v : Value), RatV wv v (ratL (((-6 : Int) : Rat) / ((8 : Int) : Rat))) → Calls Try.prog 12 #[v] wv fun e w' => e = .returned (.string ⟨#[45, 51, 47, 52]⟩) ∧ Below wv.heap.size wv w') := fun wv v hv => by
    have h := dText hv (Nat.le_trans (ex_short (-6) (by simp)).1 (by decide)) (Nat.le_trans (ex_short (-6) (by simp)).2 (by decide))
    rw [ex_text] at h
    exact h
  generalize ratL (((-1 : Int) : Rat) / ((8 : Int) : Rat)) = y1 at *
  generalize ratL (((-6 : Int) : Rat) / ((8 : Int) : Rat)) = y2 at *
  generalize ratL (((1 : Int) : Rat) / ((8 : Int) : Rat)) = x at *
  have HSm : Hid (∀ (wv : World) (v u : Value), RatV wv v x → RatV wv u x → Calls Try.prog 16 #[v, u] wv fun e w' => e = .returned (.bool true) ∧ Below wv.heap.size wv w') := fun wv v u hv hu => (r3Same hv hu).mono fun e w' ⟨he, hb⟩ => ⟨by rw [he, decide_eq_true rfl], hb⟩
  go_enter Try.func10, Try.ntmps10
  go_wp2_with fail
  refine HP.out.mono ?_
  rintro e w1 ⟨v, rfl, k1, hb1⟩
  obtain ⟨an, ad, cn, cd, rfl, h2, h3, h4, h5⟩ := k1.ex
  have hb3 : Below w1.heap.size w1 (w1.alloc (.cells #[.bool x.neg, .slice an x.num.length cn, .slice ad x.den.length cd] 25)) := (Below.refl _ w1).alloc (Nat.le_refl _) _
  have HBx := Lib.hid (Box3.alloc w1 (.bool x.neg) (.slice an x.num.length cn) (.slice ad x.den.length cd) 25)
  have HV := Lib.hid (k1.below hb3)
  have HB := Lib.hid (hb1.trans (hb3.mono hb1.size))
  obtain ⟨g, hg⟩ : ∃ g, g = w1.heap.size := ⟨_, rfl⟩
  clear hb3 k1 h4 h5 hb1 HP
  go_upto_region 2 with fail
  rw [← hg] at HBx ⊢
  generalize w1.alloc (.cells #[.bool x.neg, .slice an x.num.length cn, .slice ad x.den.length cd] 25) = W at *
  clear hg
  go_wp2_with fail
  refine (HF1.out _).mono ?_
  rintro e w2 ⟨v1, rfl, k1, hb1⟩
  have HB2 := Lib.hid (HB.out.trans (hb1.mono HB.out.size))
  have HV2 := Lib.hid (HV.out.below hb1)
  have HBx2 := Lib.hid (HBx.out.below hb1)
  have HK1 := Lib.hid (HX.out _ _ k1)
  clear k1 hb1 HB HV HBx
  go_wp2_with fail
  refine HK1.out.mono ?_
  rintro e w3 ⟨rfl, hb3⟩
  have HB3 := Lib.hid (HB2.out.trans (hb3.mono HB2.out.size))
  have HV3 := Lib.hid (HV2.out.below hb3)
  have HBx3 := Lib.hid (HBx2.out.below hb3)
  clear hb3 HB2 HV2 HBx2 HK1
  go_upto_region 3 with fail
  obtain ⟨x0, x1, x2, _, xlt⟩ := HBx3.out
  have xbl : Below w3.heap.size w3 w3.drew := (Below.refl _ _).drew
  go_region_held3 (fun w' => w'.cell? ⟨g, 0, none⟩ = some (.bool x.neg) ∧ w'.cell? ⟨g, 1, none⟩ = some (.slice an x.num.length cn) ∧ w'.cell? ⟨g, 2, none⟩ = some (.slice ad x.den.length cd))
    (first | exact S3_keep x0 x1 x2 xlt ‹Below w3.heap.size w3 _› | go_keep)
    (first
      | (go_at_call 25; have hS := ‹Below w3.heap.size w3 _›; (with_reducible refine (HF2.out _).mono ?_); rintro e w4 ⟨v4, rfl, k4, hb4⟩; have hS4 := hS.trans (hb4.mono hS.size); have K4 := Lib.hid (HT.out _ _ k4); clear k4)
      | (go_at_call 12; have hS := ‹Below w3.heap.size w3 _›; refine K4.out.mono ?_; rintro e w5 ⟨rfl, hb5⟩; have hS5 := hS.trans (hb5.mono hS.size))
      | (go_at_call 25; have hS := ‹Below w3.heap.size w3 _›; (with_reducible refine (HF3.out _).mono ?_); rintro e w6 ⟨v6, rfl, k6, hb6⟩; have hS6 := hS.trans (hb6.mono hS.size); have K6 := Lib.hid k6; clear k6)
      | (go_at_call 16; have hS := ‹Below w3.heap.size w3 _›; refine (HSm.out _ _ _ (HV3.out.below hS) K6.out).mono ?_; rintro e w7 ⟨rfl, hb7⟩; have hS7 := hS.trans (hb7.mono hS.size)))
  all_goals
    have HBf := Lib.hid (HB3.out.trans (hS7.mono HB3.out.size))
    go_wp2
    go_ret
    exact ⟨rfl, HBf.out⟩

end Go.Proofs.Ytfmhedfiklidhaa

/-
  The walks of DecimalText and DecimalParse: by contract.
-/
namespace Go.Proofs.Ytfmhedfiklidhaa
open Go.RowKit

theorem limbs_lval_limbs (n : Nat) : limbs (lval (limbs n)) = limbs n := by rw [lval_limbs]
theorem canonL_limbs {x : RatL} (h : canonL x = x) : x.num = limbs (lval x.num) ∧ x.den = limbs (lval x.den) := by
  rw [canonL_ratL] at h
  rw [← h]
  refine ⟨?_, ?_⟩
  · show limbs _ = limbs (lval (limbs _)); rw [lval_limbs]
  · show (if _ then _ else _) = limbs (lval (if _ then _ else _))
    split
    · rw [lval_nil, limbs_zero]
    · rw [lval_limbs]
theorem fair_parts {x : RatL} (h : fairR x = true) : x.num.length ≤ 8 ∧ x.den.length ≤ 8 ∧ canonL x = x := by
  unfold fairR validR at h
  simp only [Bool.and_eq_true, decide_eq_true_eq] at h
  exact ⟨h.1, h.2.1, h.2.2.symm⟩

set_option maxRecDepth 100000 in
set_option maxHeartbeats 3200000 in
theorem lawText {w : World} {v : Value} {x : RatL} (hv : RatV w v x) :
    Calls Try.prog 3 #[v] w fun e w' => e = .returned (.bool true) ∧ Below w.heap.size w w' := by
  have HA := Lib.hid (fun wv => lAwake wv)
  obtain ⟨an, ad, cn, cd, rfl, h2, h3, h4, h5⟩ := hv.ex
  have hb0 : Below w.heap.size w (w.alloc (.cells #[.bool x.neg, .slice an x.num.length cn, .slice ad x.den.length cd] 25)) := (Below.refl _ w).alloc (Nat.le_refl _) _
  have HBx := Lib.hid (Box3.alloc w (.bool x.neg) (.slice an x.num.length cn) (.slice ad x.den.length cd) 25)
  have HV := Lib.hid (hv.below hb0)
  have HB := Lib.hid hb0
  clear hv h4 h5 hb0
  go_enter Try.func3, Try.ntmps3
  go_upto_region 1 with fail
  generalize w.alloc (.cells #[.bool x.neg, .slice an x.num.length cn, .slice ad x.den.length cd] 25) = W at *
  go_wp2_with fail
  refine (HA.out _).mono ?_
  rintro e w1 ⟨rfl, hb1⟩
  have HB1 := Lib.hid (HB.out.trans (hb1.mono HB.out.size))
  have HV1 := Lib.hid (HV.out.below hb1)
  have HBx1 := Lib.hid (HBx.out.below hb1)
  clear hb1 HB HV HBx
  obtain ⟨x0, x1, x2, _, xlt⟩ := HBx1.out
  go_wp2_with fail
  refine (lFair HV1.out).mono ?_
  rintro e w2 ⟨rfl, hb2⟩
  have HB2 := Lib.hid (HB1.out.trans (hb2.mono HB1.out.size))
  have HV2 := Lib.hid (HV1.out.below hb2)
  have HBx2 := Lib.hid (HBx1.out.below hb2)
  clear hb2 HB1 HV1 HBx1 x0 x1 x2 xlt
  cases hf : fairR x with
  | false =>
    go_wp2_with fail
    refine (HA.out _).mono ?_
    rintro e w3 ⟨rfl, hb3⟩
    have HB3 := Lib.hid (HB2.out.trans (hb3.mono HB2.out.size))
    clear hb3
    go_wp2
    go_ret
    exact ⟨rfl, HB3.out⟩
  | true =>
    obtain ⟨f1, f2, f3⟩ := fair_parts hf
    obtain ⟨f4, f5⟩ := canonL_limbs f3
    have HC1 := Lib.hid (fun (wv : World) (h : RatV wv (.agg #[.bool x.neg, .slice an x.num.length cn, .slice ad x.den.length cd]) x) => dText h (by omega) (by omega))
    have HC2 := Lib.hid (fun (wv : World) (h : RatV wv (.agg #[.bool x.neg, .slice an x.num.length cn, .slice ad x.den.length cd]) x) => r4Text h f4 f5 (by omega) (by omega))
    clear hf f3 f4 f5
    generalize textL x = TX at *
    go_upto_region 3 with fail
    obtain ⟨x0, x1, x2, _, xlt⟩ := HBx2.out
    have xbl : Below w2.heap.size w2 w2.drew := (Below.refl _ _).drew
    go_region_held3 (fun w' => w'.cell? ⟨w.heap.size, 0, none⟩ = some (.bool x.neg) ∧ w'.cell? ⟨w.heap.size, 1, none⟩ = some (.slice an x.num.length cn) ∧ w'.cell? ⟨w.heap.size, 2, none⟩ = some (.slice ad x.den.length cd))
      (first | exact S3_keep x0 x1 x2 xlt ‹Below w2.heap.size w2 _› | go_keep)
      (first
        | (go_at_call 12; have hS := ‹Below w2.heap.size w2 _›; refine (HC1.out _ (HV2.out.below hS)).mono ?_; rintro e w3 ⟨rfl, hb3⟩; have hS3 := hS.trans (hb3.mono hS.size))
        | (go_at_call 13; have hS := ‹Below w2.heap.size w2 _›; refine (HC2.out _ (HV2.out.below hS)).mono ?_; rintro e w4 ⟨rfl, hb4⟩; have hS4 := hS.trans (hb4.mono hS.size)))
    all_goals
      have HBf := Lib.hid (HB2.out.trans (hS4.mono HB2.out.size))
      go_wp2
      go_ret
      exact ⟨rfl, HBf.out⟩

set_option maxRecDepth 100000 in
set_option maxHeartbeats 3200000 in
theorem lawParse {w : World} (L : List UInt8) (hL : L.length ≤ 9223372036854775807) :
    Calls Try.prog 4 #[.string (Str L)] w fun e w' => e = .returned (.bool true) ∧ Below w.heap.size w w' := by
  have HA := Lib.hid (fun wv => lAwake wv)
  have hsz := Str_size L
  by_cases hl : L.length ≤ 300
  · have HP1 := Lib.hid (fun (wv : World) => dParse (w := wv) (L := L) (by omega))
    have HP2 := Lib.hid (fun (wv : World) => r4Parse (w := wv) (L := L) (by omega))
    have HSm : Hid (∀ (wv : World) (v u : Value), RatV wv v (parseL L).1 → RatV wv u (parseL L).1 → Calls Try.prog 16 #[v, u] wv fun e w' => e = .returned (.bool true) ∧ Below wv.heap.size wv w') := fun wv v u hv hu => (r3Same hv hu).mono fun e w' ⟨he, hb⟩ => ⟨by rw [he, decide_eq_true rfl], hb⟩
    have q1 : decide (300 < (L.length : Int)) = false := decide_eq_false (by omega)
    generalize parseL L = r at *
    obtain ⟨x, ps, er⟩ := r
    clear hl
    go_enter Try.func4, Try.ntmps4
    go_wp2_with fail
    refine (HA.out _).mono ?_
    rintro e w1 ⟨rfl, hb1⟩
    have HB1 := Lib.hid hb1
    clear hb1
    go_wp2_with fail
    refine (HP1.out _).mono ?_
    rintro e w2 ⟨v, rfl, k2, hb2⟩
    obtain ⟨an, ad, cn, cd, rfl, h2, h3, h4, h5⟩ := k2.ex
    have hb3 : Below w2.heap.size w2 (w2.alloc (.cells #[.bool x.neg, .slice an x.num.length cn, .slice ad x.den.length cd] 25)) := (Below.refl _ w2).alloc (Nat.le_refl _) _
    have HBx := Lib.hid (Box3.alloc w2 (.bool x.neg) (.slice an x.num.length cn) (.slice ad x.den.length cd) 25)
    have HV := Lib.hid (k2.below hb3)
    have HB2 := Lib.hid (HB1.out.trans ((hb2.trans (hb3.mono hb2.size)).mono HB1.out.size))
    obtain ⟨g, hg⟩ : ∃ g, g = w2.heap.size := ⟨_, rfl⟩
    clear hb3 k2 h4 h5 hb2 HB1
    go_upto_region 4 with fail
    rw [← hg] at HBx ⊢
    generalize w2.alloc (.cells #[.bool x.neg, .slice an x.num.length cn, .slice ad x.den.length cd] 25) = W at *
    clear hg
    go_wp2_with fail
    refine (HP2.out _).mono ?_
    rintro e w3 ⟨v, rfl, k3, hb3⟩
    obtain ⟨bn, bd, dn, dd, rfl, g2, g3, g4, g5⟩ := k3.ex
    have hb4 : Below w3.heap.size w3 (w3.alloc (.cells #[.bool x.neg, .slice bn x.num.length dn, .slice bd x.den.length dd] 25)) := (Below.refl _ w3).alloc (Nat.le_refl _) _
    have HBy := Lib.hid (Box3.alloc w3 (.bool x.neg) (.slice bn x.num.length dn) (.slice bd x.den.length dd) 25)
    have hbb := hb3.trans (hb4.mono hb3.size)
    have HU := Lib.hid (k3.below hb4)
    have HV3 := Lib.hid (HV.out.below hbb)
    have HBx3 := Lib.hid (HBx.out.below hbb)
    have HB3 := Lib.hid (HB2.out.trans (hbb.mono HB2.out.size))
    obtain ⟨g', hg⟩ : ∃ g, g = w3.heap.size := ⟨_, rfl⟩
    clear hb3 k3 g4 g5 hb4 hbb HB2 HV HBx
    go_upto_region 5 with fail
    rw [← hg] at HBy ⊢
    generalize w3.alloc (.cells #[.bool x.neg, .slice bn x.num.length dn, .slice bd x.den.length dd] 25) = W3 at *
    clear hg
    obtain ⟨x0, x1, x2, _, xlt⟩ := HBx3.out
    obtain ⟨y0, y1, y2, _, ylt⟩ := HBy.out
    go_wp2_with fail
    refine (HSm.out _ _ _ HV3.out HU.out).mono ?_
    rintro e w5 ⟨rfl, hb5⟩
    have HB5 := Lib.hid (HB3.out.trans (hb5.mono HB3.out.size))
    clear hb5
    go_wp2
    go_ret
    exact ⟨rfl, HB5.out⟩
  · have q1 : decide (300 < (L.length : Int)) = true := decide_eq_true (by omega)
    go_enter Try.func4, Try.ntmps4
    go_wp2_with fail
    refine (HA.out _).mono ?_
    rintro e w1 ⟨rfl, hb1⟩
    have HB1 := Lib.hid hb1
    clear hb1
    go_wp2_with fail
    refine (HA.out _).mono ?_
    rintro e w2 ⟨rfl, hb2⟩
    have HB2 := Lib.hid (HB1.out.trans (hb2.mono HB1.out.size))
    clear hb2
    go_wp2
    go_ret
    exact ⟨rfl, HB2.out⟩

end Go.Proofs.Ytfmhedfiklidhaa

/-
  The walks of DecimalFixed and DecimalRoundTrip: by contract.
-/
namespace Go.Proofs.Ytfmhedfiklidhaa
open Go.RowKit

theorem canon_den0 {x : RatL} (h : canonL x = x) : x.den.length = 0 ∨ 0 < lval x.den := (canon_den h).imp id (fun k => by omega)

set_option maxRecDepth 100000 in
set_option maxHeartbeats 3200000 in
theorem lawFixed {w : World} {v : Value} {x : RatL} (hv : RatV w v x) (p : Int) (bp : -9223372036854775808 ≤ p ∧ p ≤ 9223372036854775807) :
    Calls Try.prog 6 #[v, .int .i64 p] w fun e w' => e = .returned (.bool true) ∧ Below w.heap.size w w' := by
  obtain ⟨bp1, bp2⟩ := bp
  have HA := Lib.hid (fun wv => lAwake wv)
  obtain ⟨an, ad, cn, cd, rfl, h2, h3, h4, h5⟩ := hv.ex
  have hb0 : Below w.heap.size w (w.alloc (.cells #[.bool x.neg, .slice an x.num.length cn, .slice ad x.den.length cd] 25)) := (Below.refl _ w).alloc (Nat.le_refl _) _
  have HBx := Lib.hid (Box3.alloc w (.bool x.neg) (.slice an x.num.length cn) (.slice ad x.den.length cd) 25)
  have HV := Lib.hid (hv.below hb0)
  have HB := Lib.hid hb0
  clear hv h4 h5 hb0
  go_enter Try.func6, Try.ntmps6
  go_upto_region 1 with fail
  generalize w.alloc (.cells #[.bool x.neg, .slice an x.num.length cn, .slice ad x.den.length cd] 25) = W at *
  go_wp2_with fail
  refine (HA.out _).mono ?_
  rintro e w1 ⟨rfl, hb1⟩
  have HB1 := Lib.hid (HB.out.trans (hb1.mono HB.out.size))
  have HV1 := Lib.hid (HV.out.below hb1)
  have HBx1 := Lib.hid (HBx.out.below hb1)
  clear hb1 HB HV HBx
  obtain ⟨x0, x1, x2, _, xlt⟩ := HBx1.out
  go_wp2_with fail
  refine (lFair HV1.out).mono ?_
  rintro e w2 ⟨rfl, hb2⟩
  have HB2 := Lib.hid (HB1.out.trans (hb2.mono HB1.out.size))
  have HV2 := Lib.hid (HV1.out.below hb2)
  have HBx2 := Lib.hid (HBx1.out.below hb2)
  clear hb2 HB1 HV1 HBx1 x0 x1 x2 xlt
  cases hf : fairR x with
  | false =>
    go_wp2_with fail
    refine (HA.out _).mono ?_
    rintro e w3 ⟨rfl, hb3⟩
    have HB3 := Lib.hid (HB2.out.trans (hb3.mono HB2.out.size))
    clear hb3
    go_wp2
    go_ret
    exact ⟨rfl, HB3.out⟩
  | true =>
    obtain ⟨f1, f2, f3⟩ := fair_parts hf
    have f6 := canon_den0 f3
    clear hf
    by_cases c1 : 60 < p ∧ p ≤ 4000
    · have q1 : decide (60 < p) = true := decide_eq_true c1.1
      have q2 : decide (p ≤ 4000) = true := decide_eq_true c1.2
      clear f6 f3
      go_wp2_with fail
      refine (HA.out _).mono ?_
      rintro e w3 ⟨rfl, hb3⟩
      have HB3 := Lib.hid (HB2.out.trans (hb3.mono HB2.out.size))
      clear hb3
      go_wp2
      go_ret
      exact ⟨rfl, HB3.out⟩
    · by_cases c2 : p < 0 ∨ 4000 < p
      · have HC1 := Lib.hid (fun (wv : World) (h : RatV wv (.agg #[.bool x.neg, .slice an x.num.length cn, .slice ad x.den.length cd]) x) => dFixed_out h p c2)
        have HC2 := Lib.hid (fun (wv : World) (h : RatV wv (.agg #[.bool x.neg, .slice an x.num.length cn, .slice ad x.den.length cd]) x) => r4Fixed_out h p c2)
        have hq : (∃ b, decide (60 < p) = b ∧ (b = true → decide (p ≤ 4000) = false)) := by
          by_cases h60 : 60 < p
          · exact ⟨true, decide_eq_true h60, fun _ => decide_eq_false (fun h => c1 ⟨h60, h⟩)⟩
          · exact ⟨false, decide_eq_false h60, fun h => by cases h⟩
        obtain ⟨b, q1, q2⟩ := hq
        clear c1 c2 f3 f6
        obtain ⟨x0, x1, x2, _, xlt⟩ := HBx2.out
        cases b with
        | true =>
          have q3 := q2 rfl
          clear q2
          go_wp2_with fail
          refine (HC1.out _ HV2.out).mono ?_
          rintro e w3 ⟨rfl, hb3⟩
          have HB3 := Lib.hid (HB2.out.trans (hb3.mono HB2.out.size))
          have HV3 := Lib.hid (HV2.out.below hb3)
          have HBx3 := Lib.hid (HBx2.out.below hb3)
          clear hb3 x0 x1 x2 xlt
          obtain ⟨x0, x1, x2, _, xlt⟩ := HBx3.out
          go_wp2_with fail
          refine (HC2.out _ HV3.out).mono ?_
          rintro e w4 ⟨rfl, hb4⟩
          have HB4 := Lib.hid (HB3.out.trans (hb4.mono HB3.out.size))
          clear hb4
          go_wp2
          go_ret
          exact ⟨rfl, HB4.out⟩
        | false =>
          clear q2
          go_wp2_with fail
          refine (HC1.out _ HV2.out).mono ?_
          rintro e w3 ⟨rfl, hb3⟩
          have HB3 := Lib.hid (HB2.out.trans (hb3.mono HB2.out.size))
          have HV3 := Lib.hid (HV2.out.below hb3)
          have HBx3 := Lib.hid (HBx2.out.below hb3)
          clear hb3 x0 x1 x2 xlt
          obtain ⟨x0, x1, x2, _, xlt⟩ := HBx3.out
          go_wp2_with fail
          refine (HC2.out _ HV3.out).mono ?_
          rintro e w4 ⟨rfl, hb4⟩
          have HB4 := Lib.hid (HB3.out.trans (hb4.mono HB3.out.size))
          clear hb4
          go_wp2
          go_ret
          exact ⟨rfl, HB4.out⟩
      · obtain ⟨n, hn⟩ : ∃ n : Nat, p = (n : Int) := ⟨p.toNat, by omega⟩
        subst hn
        have hn : n ≤ 60 := by omega
        have HC1 := Lib.hid (fun (wv : World) (h : RatV wv (.agg #[.bool x.neg, .slice an x.num.length cn, .slice ad x.den.length cd]) x) => dFixed h f3 (by omega) (by omega) n (by omega))
        have HC2 := Lib.hid (fun (wv : World) (h : RatV wv (.agg #[.bool x.neg, .slice an x.num.length cn, .slice ad x.den.length cd]) x) => r4Fixed h (by omega) (by omega) f6 n (by omega))
        have q1 : decide (60 < (n : Int)) = false := decide_eq_false (by omega)
        generalize fixedL x.neg (lval x.num) (underN x.den) n = TX at *
        clear c1 c2 f3 f6
        obtain ⟨x0, x1, x2, _, xlt⟩ := HBx2.out
        go_wp2_with fail
        refine (HC1.out _ HV2.out).mono ?_
        rintro e w3 ⟨rfl, hb3⟩
        have HB3 := Lib.hid (HB2.out.trans (hb3.mono HB2.out.size))
        have HV3 := Lib.hid (HV2.out.below hb3)
        have HBx3 := Lib.hid (HBx2.out.below hb3)
        clear hb3 x0 x1 x2 xlt
        obtain ⟨x0, x1, x2, _, xlt⟩ := HBx3.out
        go_wp2_with fail
        refine (HC2.out _ HV3.out).mono ?_
        rintro e w4 ⟨rfl, hb4⟩
        have HB4 := Lib.hid (HB3.out.trans (hb4.mono HB3.out.size))
        clear hb4
        go_wp2
        go_ret
        exact ⟨rfl, HB4.out⟩

theorem textL_len (x : RatL) : (textL x).length ≤ (digN (lval x.num)).length + (digN (lval x.den)).length + 2 := by
  unfold textL
  rw [List.length_append, List.length_append]
  cases x.neg
  · simp only [Bool.false_eq_true, if_false, List.length_nil]
    split
    · simp; omega
    · simp; omega
  · simp only [if_true, List.length_cons, List.length_nil]
    split
    · simp; omega
    · simp; omega
theorem parse_short {L : List UInt8} (h : (parseL L).2.2 = 0) (hl : L.length ≤ 200) : (parseL L).1.num.length ≤ 1000 ∧ (parseL L).1.den.length ≤ 1000 ∧ (textL (parseL L).1).length ≤ 100000 := by
  obtain ⟨h1, h2, h3⟩ := parse_vals (e := 2 * L.length + 1) (by omega) h
  obtain ⟨h4, h5⟩ := canonL_limbs h3
  have k1 := digN_le h1 (by omega)
  have k2 := digN_le h2 (by omega)
  have k3 := textL_len (parseL L).1
  refine ⟨?_, ?_, by omega⟩
  · rw [h4]; exact Nat.le_trans (limbs_len_dec h1) (by omega)
  · rw [h5]; exact Nat.le_trans (limbs_len_dec h2) (by omega)

set_option maxRecDepth 100000 in
set_option maxHeartbeats 3200000 in
theorem lawTrip {w : World} {v : Value} {x : RatL} (hv : RatV w v x) (L : List UInt8) (hL : L.length ≤ 9223372036854775807) :
    Calls Try.prog 7 #[v, .string (Str L)] w fun e w' => e = .returned (.bool true) ∧ Below w.heap.size w w' := by
  have hsz := Str_size L
  have HLim := Lib.hid hv.lim
  have HA := Lib.hid (fun wv => lAwake wv)
  obtain ⟨an, ad, cn, cd, rfl, h2, h3, h4, h5⟩ := hv.ex
  have hb0 : Below w.heap.size w (w.alloc (.cells #[.bool x.neg, .slice an x.num.length cn, .slice ad x.den.length cd] 25)) := (Below.refl _ w).alloc (Nat.le_refl _) _
  have HBx := Lib.hid (Box3.alloc w (.bool x.neg) (.slice an x.num.length cn) (.slice ad x.den.length cd) 25)
  have HV := Lib.hid (hv.below hb0)
  have HB := Lib.hid hb0
  clear hv h4 h5 hb0
  go_enter Try.func7, Try.ntmps7
  go_upto_region 1 with fail
  generalize w.alloc (.cells #[.bool x.neg, .slice an x.num.length cn, .slice ad x.den.length cd] 25) = W at *
  go_wp2_with fail
  refine (HA.out _).mono ?_
  rintro e w1 ⟨rfl, hb1⟩
  have HB1 := Lib.hid (HB.out.trans (hb1.mono HB.out.size))
  have HV1 := Lib.hid (HV.out.below hb1)
  have HBx1 := Lib.hid (HBx.out.below hb1)
  clear hb1 HB HV HBx
  obtain ⟨x0, x1, x2, _, xlt⟩ := HBx1.out
  go_wp2_with fail
  refine (lFair HV1.out).mono ?_
  rintro e w2 ⟨rfl, hb2⟩
  have HB2 := Lib.hid (HB1.out.trans (hb2.mono HB1.out.size))
  have HV2 := Lib.hid (HV1.out.below hb2)
  have HBx2 := Lib.hid (HBx1.out.below hb2)
  clear hb2 HB1 HV1 HBx1 x0 x1 x2 xlt
  cases hf : fairR x with
  | false =>
    go_wp2_with fail
    refine (HA.out _).mono ?_
    rintro e w3 ⟨rfl, hb3⟩
    have HB3 := Lib.hid (HB2.out.trans (hb3.mono HB2.out.size))
    clear hb3
    go_wp2
    go_ret
    exact ⟨rfl, HB3.out⟩
  | true =>
    obtain ⟨f1, f2, f3⟩ := fair_parts hf
    clear hf
    by_cases c1 : L.length ≤ 200
    · have q1 : decide (200 < (L.length : Int)) = false := decide_eq_false (by omega)
      have l1 := digN_len_le HLim.out.1
      have l2 := digN_len_le HLim.out.2
      have l3 := textL_len x
      have HC1 := Lib.hid (fun (wv : World) (h : RatV wv (.agg #[.bool x.neg, .slice an x.num.length cn, .slice ad x.den.length cd]) x) => dText h (by omega) (by omega))
      have HP : Hid (∀ (wv : World), Calls Try.prog 14 #[.string (Str (textL x))] wv (RetP wv (x, 0, 0))) := fun wv => by
        have h := dParse (w := wv) (L := textL x) (by omega)
        rw [parse_text f3 (by omega)] at h
        exact h
      have HSm : Hid (∀ (wv : World) (v u : Value) (z : RatL), RatV wv v z → RatV wv u z → Calls Try.prog 16 #[v, u] wv fun e w' => e = .returned (.bool true) ∧ Below wv.heap.size wv w') := fun wv v u z hv hu => (r3Same hv hu).mono fun e w' ⟨he, hb⟩ => ⟨by rw [he, decide_eq_true rfl], hb⟩
      have HQ := Lib.hid (fun (wv : World) => dParse (w := wv) (L := L) (by omega))
      have HZ : Hid ((parseL L).2.2 = 0 → (∀ (wv : World) (v : Value), RatV wv v (parseL L).1 → Calls Try.prog 12 #[v] wv fun e w' => e = .returned (.string (Str (textL (parseL L).1))) ∧ Below wv.heap.size wv w') ∧
          ∀ wv : World, Calls Try.prog 14 #[.string (Str (textL (parseL L).1))] wv (RetP wv ((parseL L).1, 0, 0))) := fun h => by
        obtain ⟨s1, s2, s3⟩ := parse_short h c1
        refine ⟨fun wv v hv => dText hv (by omega) (by omega), fun wv => ?_⟩
        have h2 := dParse (w := wv) (L := textL (parseL L).1) s3
        rw [parse_again h c1] at h2
        exact h2
      generalize textL x = TX at *
      generalize parseL L = r at *
      obtain ⟨z, ps, er⟩ := r
      clear c1 f3 l1 l2 l3
      obtain ⟨x0, x1, x2, _, xlt⟩ := HBx2.out
      go_wp2_with fail
      refine (HC1.out _ HV2.out).mono ?_
      rintro e w3 ⟨rfl, hb3⟩
      have HB3 := Lib.hid (HB2.out.trans (hb3.mono HB2.out.size))
      have HV3 := Lib.hid (HV2.out.below hb3)
      have HBx3 := Lib.hid (HBx2.out.below hb3)
      clear hb3 x0 x1 x2 xlt
      go_wp2_with fail
      refine (HP.out _).mono ?_
      rintro e w4 ⟨v, rfl, k4, hb4⟩
      obtain ⟨bn, bd, dn, dd, rfl, g2, g3, g4, g5⟩ := k4.ex
      have hb5 : Below w4.heap.size w4 (w4.alloc (.cells #[.bool x.neg, .slice bn x.num.length dn, .slice bd x.den.length dd] 25)) := (Below.refl _ w4).alloc (Nat.le_refl _) _
      have HBy := Lib.hid (Box3.alloc w4 (.bool x.neg) (.slice bn x.num.length dn) (.slice bd x.den.length dd) 25)
      have hbb := hb4.trans (hb5.mono hb4.size)
      have HU := Lib.hid (k4.below hb5)
      have HV4 := Lib.hid (HV3.out.below hbb)
      have HBx4 := Lib.hid (HBx3.out.below hbb)
      have HB4 := Lib.hid (HB3.out.trans (hbb.mono HB3.out.size))
      obtain ⟨g, hg⟩ : ∃ g, g = w4.heap.size := ⟨_, rfl⟩
      clear hb4 k4 g4 g5 hb5 hbb HB3 HV3 HBx3
      go_upto_region 4 with fail
      rw [← hg] at HBy ⊢
      generalize w4.alloc (.cells #[.bool x.neg, .slice bn x.num.length dn, .slice bd x.den.length dd] 25) = W4 at *
      clear hg
      go_wp2_with fail
      refine (HQ.out _).mono ?_
      rintro e w5 ⟨v, rfl, k5, hb5⟩
      obtain ⟨en, ed, hn, hd, rfl, i2, i3, i4, i5⟩ := k5.ex
      have hb6 : Below w5.heap.size w5 (w5.alloc (.cells #[.bool z.neg, .slice en z.num.length hn, .slice ed z.den.length hd] 25)) := (Below.refl _ w5).alloc (Nat.le_refl _) _
      have HBz := Lib.hid (Box3.alloc w5 (.bool z.neg) (.slice en z.num.length hn) (.slice ed z.den.length hd) 25)
      have hbb := hb5.trans (hb6.mono hb5.size)
      have HZ5 := Lib.hid (k5.below hb6)
      have HV5 := Lib.hid (HV4.out.below hbb)
      have HBx5 := Lib.hid (HBx4.out.below hbb)
      have HU5 := Lib.hid (HU.out.below hbb)
      have HBy5 := Lib.hid (HBy.out.below hbb)
      have HB5 := Lib.hid (HB4.out.trans (hbb.mono HB4.out.size))
      obtain ⟨g', hg⟩ : ∃ g, g = w5.heap.size := ⟨_, rfl⟩
      clear hb5 k5 i4 i5 hb6 hbb HB4 HV4 HBx4 HU HBy
      go_upto_region 5 with fail
      rw [← hg] at HBz ⊢
      generalize w5.alloc (.cells #[.bool z.neg, .slice en z.num.length hn, .slice ed z.den.length hd] 25) = W5 at *
      clear hg
      obtain ⟨x0, x1, x2, _, xlt⟩ := HBx5.out
      obtain ⟨y0, y1, y2, _, ylt⟩ := HBy5.out
      obtain ⟨z0, z1, z2, _, zlt⟩ := HBz.out
      go_wp2_with fail
      refine (HSm.out _ _ _ _ HV5.out HU5.out).mono ?_
      rintro e w6 ⟨rfl, hb6⟩
      have HB6 := Lib.hid (HB5.out.trans (hb6.mono HB5.out.size))
      have HZ6 := Lib.hid (HZ5.out.below hb6)
      have HBz6 := Lib.hid (HBz.out.below hb6)
      clear hb6 x0 x1 x2 xlt y0 y1 y2 ylt z0 z1 z2 zlt
      by_cases he : er = 0
      · subst he
        obtain ⟨t1, t2⟩ := HZ.out rfl
        have T1 := Lib.hid t1
        have T2 := Lib.hid t2
        clear t1 t2 HZ
        generalize textL z = TZ at *
        obtain ⟨z0, z1, z2, _, zlt⟩ := HBz6.out
        go_wp2_with fail
        refine (T1.out _ _ HZ6.out).mono ?_
        rintro e w7 ⟨rfl, hb7⟩
        have HB7 := Lib.hid (HB6.out.trans (hb7.mono HB6.out.size))
        have HZ7 := Lib.hid (HZ6.out.below hb7)
        have HBz7 := Lib.hid (HBz6.out.below hb7)
        clear hb7 z0 z1 z2 zlt
        go_wp2_with fail
        refine (T2.out _).mono ?_
        rintro e w8 ⟨v, rfl, k8, hb8⟩
        obtain ⟨bn', bd', dn', dd', rfl, _, _, g4, g5⟩ := k8.ex
        have hb9 : Below w8.heap.size w8 (w8.alloc (.cells #[.bool z.neg, .slice bn' z.num.length dn', .slice bd' z.den.length dd'] 25)) := (Below.refl _ w8).alloc (Nat.le_refl _) _
        have HBy := Lib.hid (Box3.alloc w8 (.bool z.neg) (.slice bn' z.num.length dn') (.slice bd' z.den.length dd') 25)
        have hbb := hb8.trans (hb9.mono hb8.size)
        have HU := Lib.hid (k8.below hb9)
        have HZ8 := Lib.hid (HZ7.out.below hbb)
        have HBz8 := Lib.hid (HBz7.out.below hbb)
        have HB8 := Lib.hid (HB7.out.trans (hbb.mono HB7.out.size))
        obtain ⟨g2', hg⟩ : ∃ g, g = w8.heap.size := ⟨_, rfl⟩
        clear hb8 k8 g4 g5 hb9 hbb HB7 HZ7 HBz7
        go_upto_region 10 with fail
        rw [← hg] at HBy ⊢
        generalize w8.alloc (.cells #[.bool z.neg, .slice bn' z.num.length dn', .slice bd' z.den.length dd'] 25) = W8 at *
        clear hg
        obtain ⟨y0, y1, y2, _, ylt⟩ := HBy.out
        obtain ⟨z0, z1, z2, _, zlt⟩ := HBz8.out
        go_wp2_with fail
        refine (HSm.out _ _ _ _ HZ8.out HU.out).mono ?_
        rintro e w9 ⟨rfl, hb9⟩
        have HB9 := Lib.hid (HB8.out.trans (hb9.mono HB8.out.size))
        clear hb9
        go_wp2
        go_ret
        exact ⟨rfl, HB9.out⟩
      · have q5 : (er != 0) = true := by rw [bne_iff_ne]; exact he
        clear he
        go_wp2
        go_ret
        exact ⟨rfl, HB6.out⟩
    · have q1 : decide (200 < (L.length : Int)) = true := decide_eq_true (by omega)
      clear f3
      go_wp2_with fail
      refine (HA.out _).mono ?_
      rintro e w3 ⟨rfl, hb3⟩
      have HB3 := Lib.hid (HB2.out.trans (hb3.mono HB2.out.size))
      clear hb3
      go_wp2
      go_ret
      exact ⟨rfl, HB3.out⟩

end Go.Proofs.Ytfmhedfiklidhaa

/-
  The walk of DecimalLong: by contract.
-/
namespace Go.Proofs.Ytfmhedfiklidhaa
open Go.RowKit

/-- A Long, boxed. -/
structure Box5 (w : World) (g : Nat) (a b c d e : Value) : Prop where
  c0 : w.cell? ⟨g, 0, none⟩ = some a
  c1 : w.cell? ⟨g, 1, none⟩ = some b
  c2 : w.cell? ⟨g, 2, none⟩ = some c
  c3 : w.cell? ⟨g, 3, none⟩ = some d
  c4 : w.cell? ⟨g, 4, none⟩ = some e
  lt : g < w.heap.size
theorem Box5.alloc (w : World) (a b c d e : Value) (T : Nat) : Box5 (w.alloc (.cells #[a, b, c, d, e] T)) w.heap.size a b c d e :=
  ⟨by rw [World.cell?_alloc_at _ _ _ _ rfl]; rfl, by rw [World.cell?_alloc_at _ _ _ _ rfl]; rfl, by rw [World.cell?_alloc_at _ _ _ _ rfl]; rfl, by rw [World.cell?_alloc_at _ _ _ _ rfl]; rfl, by rw [World.cell?_alloc_at _ _ _ _ rfl]; rfl, by simp⟩
theorem Box5.below {w w' : World} {n g : Nat} {a b c d e : Value} (h : Box5 w g a b c d e) (hb : Below n w w') (hn : g < n) : Box5 w' g a b c d e :=
  ⟨(hb.cell hn).trans h.c0, (hb.cell hn).trans h.c1, (hb.cell hn).trans h.c2, (hb.cell hn).trans h.c3, (hb.cell hn).trans h.c4, Nat.lt_of_lt_of_le h.lt hb.size⟩
/-- The bytes collected so far: the slice b reads as S. -/
structure BSt (w1 wr : World) (b : Value) (S : List UInt8) : Prop where
  own : wr.ownsRow w1.heap.size 5 1 b S.length (S.map u8v)
  bl : Below w1.heap.size w1 wr
theorem BSt.step {w1 wr w' : World} {b v' : Value} {S : List UInt8} {c : UInt8} (h : BSt w1 wr b S) (hown : w'.ownsRow w1.heap.size 5 1 v' (S.length + 1) (S.map u8v ++ [u8v c])) (hg : wr.grownBy w' b.ownBlock) : BSt w1 w' v' (S ++ [c]) := by
  refine ⟨?_, h.bl.grown hg h.bl.size (fun k hk => (h.own.lt k hk).1)⟩
  rw [List.length_append, List.map_append]
  exact hown
theorem BSt.conv {w1 wr : World} {b : Value} {S : List UInt8} (h : BSt w1 wr b S) : (convert 36 9 b).run Try.prog wr = .ok (.string (Str S)) wr := by
  obtain ⟨hlen, hv⟩ := h.own
  rcases hv with ⟨rfl, h0⟩ | ⟨g, cap, cur, rfl, hb, hblk, hn, hcap, hsz, htk⟩
  · have : S = [] := List.length_eq_zero_iff.1 h0
    subst this
    exact run_convert_bytes_nil wr 36 5 Try.underlying36 Try.underlying5 0 0 9 Try.underlying9
  · have hcv := run_convert_bytes_arg (P := Try.prog) wr 36 5 Try.underlying36 Try.underlying5 g 0 S.length cap (S.map fun c => (c.toNat : Int)) (by rw [List.length_map]) (fun i hi => by
      rw [Nat.zero_add]
      have h1 : cur[i]? = some (u8v (S[i]'hi)) := by
        have h2 := congrArg (fun l => l[i]?) htk
        simp only [Nat.mul_one, List.getElem?_take, if_pos hi, List.getElem?_map, List.getElem?_eq_getElem hi, Option.map_some] at h2
        simpa using h2
      have h3 : (S.map fun c => (c.toNat : Int)).getD i 0 = ((S[i]'hi).toNat : Int) := by
        rw [List.getD_eq_getElem?_getD, List.getElem?_map, List.getElem?_eq_getElem hi]; rfl
      rw [h3]
      simp only [World.cell?, hblk, h1]
      rfl) 9 Try.underlying9
    rw [strOf_u8] at hcv
    exact hcv
theorem empty_newD (w : World) (T : Nat) : (w.alloc (.cells #[] T)).heap[w.heap.size]? = some (.cells #[] T (0, 0)) := by
  show (w.heap.push _)[w.heap.size]? = _
  rw [Array.getElem?_push, if_pos rfl]
theorem BSt.size {w1 wr : World} {b : Value} {S : List UInt8} (h : BSt w1 wr b S) : w1.heap.size ≤ wr.heap.size := h.bl.size
def sepT (sep : Nat) : List UInt8 := if sep % 3 = 0 then [] else if sep % 3 = 1 then [46] else [47]

set_option maxRecDepth 100000 in
set_option maxHeartbeats 6400000 in
theorem lawLong {w : World} (neg : Bool) (fr tt : Int) (sep : Nat) (hsep : sep ≤ 255) (L : List UInt8) (hL : L.length ≤ 9223372036854775807) :
    Calls Try.prog 5 #[.agg #[.bool neg, .int .i64 fr, .int .i64 tt, .int .u8 (sep : Int), .string (Str L)]] w fun e w' => e = .returned (.bool true) ∧ Below w.heap.size w w' := by
  have HA := Lib.hid (fun wv => lAwake wv)
  have hsz := Str_size L
  have HBx := Lib.hid (Box5.alloc w (.bool neg) (.int .i64 fr) (.int .i64 tt) (.int .u8 (sep : Int)) (.string (Str L)) 35)
  have HB : Hid (Below w.heap.size w (w.alloc (.cells #[.bool neg, .int .i64 fr, .int .i64 tt, .int .u8 (sep : Int), .string (Str L)] 35))) := (Below.refl _ w).alloc (Nat.le_refl _) _
  go_enter Try.func5, Try.ntmps5
  go_upto_region 1 with fail
  generalize w.alloc (.cells #[.bool neg, .int .i64 fr, .int .i64 tt, .int .u8 (sep : Int), .string (Str L)] 35) = W at *
  go_wp2_with fail
  refine (HA.out _).mono ?_
  rintro e w1 ⟨rfl, hb1⟩
  have HB1 := Lib.hid (HB.out.trans (hb1.mono HB.out.size))
  have HBx1 := Lib.hid (HBx.out.below hb1 HBx.out.lt)
  clear hb1 HB HBx
  obtain ⟨x0, x1, x2, x3, x4, xlt⟩ := HBx1.out
  by_cases c0 : fr < 0
  · have q0 : decide (fr < 0) = true := decide_eq_true (by omega)
    clear c0
    go_wp2_with fail
    refine (HA.out _).mono ?_
    rintro e w3 ⟨rfl, hb3⟩
    have HB3 := Lib.hid (HB1.out.trans (hb3.mono HB1.out.size))
    clear hb3
    go_wp2
    go_ret
    exact ⟨rfl, HB3.out⟩
  have q0 : decide (fr < 0) = false := decide_eq_false (by omega)
  by_cases c1 : 4100 < fr
  · have q1 : decide (4100 < fr) = true := decide_eq_true (by omega)
    clear c1
    go_wp2_with fail
    refine (HA.out _).mono ?_
    rintro e w3 ⟨rfl, hb3⟩
    have HB3 := Lib.hid (HB1.out.trans (hb3.mono HB1.out.size))
    clear hb3
    go_wp2
    go_ret
    exact ⟨rfl, HB3.out⟩
  have q1 : decide (4100 < fr) = false := decide_eq_false (by omega)
  by_cases c2 : tt < 0
  · have q2 : decide (tt < 0) = true := decide_eq_true (by omega)
    clear c2
    go_wp2_with fail
    refine (HA.out _).mono ?_
    rintro e w3 ⟨rfl, hb3⟩
    have HB3 := Lib.hid (HB1.out.trans (hb3.mono HB1.out.size))
    clear hb3
    go_wp2
    go_ret
    exact ⟨rfl, HB3.out⟩
  have q2 : decide (tt < 0) = false := decide_eq_false (by omega)
  by_cases c3 : 4100 < tt
  · have q3 : decide (4100 < tt) = true := decide_eq_true (by omega)
    clear c3
    go_wp2_with fail
    refine (HA.out _).mono ?_
    rintro e w3 ⟨rfl, hb3⟩
    have HB3 := Lib.hid (HB1.out.trans (hb3.mono HB1.out.size))
    clear hb3
    go_wp2
    go_ret
    exact ⟨rfl, HB3.out⟩
  have q3 : decide (4100 < tt) = false := decide_eq_false (by omega)
  by_cases c4 : 20 < L.length
  · have q4 : decide (20 < (L.length : Int)) = true := decide_eq_true (by omega)
    clear c4
    go_wp2_with fail
    refine (HA.out _).mono ?_
    rintro e w3 ⟨rfl, hb3⟩
    have HB3 := Lib.hid (HB1.out.trans (hb3.mono HB1.out.size))
    clear hb3
    go_wp2
    go_ret
    exact ⟨rfl, HB3.out⟩
  have q4 : decide (20 < (L.length : Int)) = false := decide_eq_false (by omega)
  clear x0 x1 x2 x3 x4
  obtain ⟨F, hF⟩ : ∃ F : Nat, fr = (F : Int) := ⟨fr.toNat, by omega⟩
  obtain ⟨G, hG⟩ : ∃ G : Nat, tt = (G : Int) := ⟨tt.toNat, by omega⟩
  subst hF hG
  have hF1 : F ≤ 4100 := by omega
  have hG1 : G ≤ 4100 := by omega
  have hL1 : L.length ≤ 20 := by omega
  clear c0 c1 c2 c3 c4
  have HS0 : Hid (BSt w1 (w1.alloc (.cells #[] 5)) (.slice (some ⟨w1.heap.size, 0, none⟩) 0 0) []) := ⟨own_empty (empty_newD _ _) (Nat.le_refl _), (Below.refl _ _).alloc (Nat.le_refl _) _⟩
  obtain ⟨x0, x1, x2, x3, x4, _⟩ := HBx1.out
  go_upto_region 4 with fail
  clear x0 x1 x2 x3 x4
  generalize w1.alloc (.cells #[] 5) = W2 at *
  have HBw : Hid (∀ (wr : World), Below w1.heap.size w1 wr → Box5 wr w.heap.size (.bool neg) (.int .i64 (F : Int)) (.int .i64 (G : Int)) (.int .u8 (sep : Int)) (.string (Str L))) := fun wr h => HBx1.out.below h HBx1.out.lt
  obtain ⟨x0, x1, x2, x3, x4, _⟩ := HBw.out _ HS0.out.bl
  go_upto_if 44 with fail
  go_cut [0, 3] (fun s0 s3 wx => BSt w1 wx s3 (sgnT neg))
  case first =>
    cases neg with
    | true =>
      have HSz := HS0.out.size
      go_wp2_with (at_builtin; refine wpList_app1 rfl (.tmp 45) (.tmp 46) 36 rfl w1.heap.size 5 (.int .u8 0) 1 Try.underlying36 Try.infoU8 rfl (.slice (some ⟨w1.heap.size, 0, none⟩) 0 0) 0 _ rfl HS0.out.own _ rfl rfl (by omega) (by unfold maxLen; omega) HSz ?_; intro v' w' hown hg hn)
      have HF := Lib.hid (HS0.out.step (c := 45) hown hg)
      clear hown hg hn
      go_wp2
      go_meet
      exact HF.out
    | false =>
      go_wp2
      go_meet
      exact HS0.out
  case rest =>
    have HC := Lib.hid hcut
    have hS1 : (sgnT neg).length ≤ 1 := by cases neg <;> simp [sgnT]
    clear hcut HS0
    generalize hsg : sgnT neg = S0 at *
    have HSg := Lib.hid hsg
    clear hsg
    go_wp2
    go_loopw [3, 4] (fun b i wr => ∃ (k : Nat), k ≤ F ∧ i = .int .i64 (k : Int) ∧ Hid (BSt w1 wr b (S0 ++ List.replicate k 48))) (fun _ i _ => F - (intOf i).toNat)
    case atStart => exact ⟨0, Nat.zero_le _, rfl, by rw [List.replicate_zero, List.append_nil]; exact HC.out⟩
    case round =>
      obtain ⟨k, hk, rfl, HI⟩ := hrel
      obtain ⟨x0, x1, x2, x3, x4, _⟩ := HBw.out _ HI.out.bl
      have HSz := HI.out.size
      by_cases hlt : k < F
      · obtain ⟨m, hm⟩ : ∃ m, m = (S0 ++ List.replicate k 48).length := ⟨_, rfl⟩
        have hmb : m ≤ 10000 := by rw [hm, List.length_append, List.length_replicate]; omega
        have HOw : Hid (wr.ownsRow w1.heap.size 5 1 u3 m ((S0 ++ List.replicate k 48).map u8v)) := by rw [hm]; exact HI.out.own
        have HM := Lib.hid hm
        clear hm x0 x3 x4
        go_wp2_with (at_builtin; refine wpList_app1 rfl (.tmp 54) (.tmp 55) 36 rfl w1.heap.size 5 (.int .u8 0) 1 Try.underlying36 Try.infoU8 rfl u3 m _ rfl HOw.out _ rfl rfl (by omega) (by unfold maxLen; omega) HSz ?_; intro v' w' hown hg hn)
        rw [HM.out] at hown
        have HF := Lib.hid (HI.out.step (c := 48) hown hg)
        clear hown hg hn
        go_wp2
        go_roundw
        case rel => exact ⟨k + 1, hlt, by go_num, by have h := HF.out; rw [List.append_assoc, ← List.replicate_succ'] at h; exact h⟩
        case measure => simp [intOf]; omega
      · obtain rfl : F = k := by omega
        clear x0 x2 x4
        have HSp := Lib.hid (show Below w1.heap.size w1 wr from HI.out.bl)
        obtain ⟨S1, hS1⟩ : ∃ S1, S1 = S0 ++ List.replicate F 48 := ⟨_, rfl⟩
        rw [← hS1] at HI
        obtain ⟨m, hm⟩ : ∃ m, m = S1.length := ⟨_, rfl⟩
        have hmb : m ≤ 10000 := by rw [hm, hS1, List.length_append, List.length_replicate]; omega
        have HOw : Hid (wr.ownsRow w1.heap.size 5 1 u3 m (S1.map u8v)) := by rw [hm]; exact HI.out.own
        have HM := Lib.hid hm
        have HS1 := Lib.hid hS1
        clear hm hS1
        go_upto_if 60 with fail
        go_cut [3] (fun s3 wx => BSt w1 wx s3 (S1 ++ sepT sep))
        case first =>
          rcases (by omega : sep % 3 = 0 ∨ sep % 3 = 1 ∨ sep % 3 = 2) with h3 | h3 | h3
          · have e3 : (sep : Int) % 3 = 0 := by omega
            have HE3 : Hid (sepT sep = []) := by unfold Hid sepT; rw [if_pos h3]
            clear h3
            simp only [e3]
            go_wp2
            go_meet
            rw [HE3.out, List.append_nil]
            exact HI.out
          · have e3 : (sep : Int) % 3 = 1 := by omega
            have HE3 : Hid (sepT sep = [46]) := by unfold Hid sepT; rw [if_neg (by omega), if_pos h3]
            clear h3
            have hix : ∀ wv : World, (Instr.index 9 (.string ⟨#[46, 47]⟩) (.int .u8 0)).run Try.prog wv = .ok (.int .u8 46) wv := fun _ => by kernel_rfl
            simp only [e3]
            go_wp2_with (at_builtin; refine wpList_app1 rfl (.tmp 61) (.tmp 67) 36 rfl w1.heap.size 5 (.int .u8 0) 1 Try.underlying36 Try.infoU8 rfl u3 m _ rfl HOw.out _ rfl rfl (by omega) (by unfold maxLen; omega) HSz ?_; intro v' w' hown hg hn)
            rw [HM.out] at hown
            have HF := Lib.hid (HI.out.step (c := 46) hown hg)
            clear hown hg hn
            go_wp2
            go_meet
            rw [HE3.out]
            exact HF.out
          · have e3 : (sep : Int) % 3 = 2 := by omega
            have HE3 : Hid (sepT sep = [47]) := by unfold Hid sepT; rw [if_neg (by omega), if_neg (by omega)]
            clear h3
            have hix : ∀ wv : World, (Instr.index 9 (.string ⟨#[46, 47]⟩) (.int .u8 1)).run Try.prog wv = .ok (.int .u8 47) wv := fun _ => by kernel_rfl
            simp only [e3]
            go_wp2_with (at_builtin; refine wpList_app1 rfl (.tmp 61) (.tmp 67) 36 rfl w1.heap.size 5 (.int .u8 0) 1 Try.underlying36 Try.infoU8 rfl u3 m _ rfl HOw.out _ rfl rfl (by omega) (by unfold maxLen; omega) HSz ?_; intro v' w' hown hg hn)
            rw [HM.out] at hown
            have HF := Lib.hid (HI.out.step (c := 47) hown hg)
            clear hown hg hn
            go_wp2
            go_meet
            rw [HE3.out]
            exact HF.out
        case rest =>
          have HC2 := Lib.hid hcut
          have hsl : (sepT sep).length ≤ 1 := by unfold sepT; split; simp; split <;> simp
          obtain ⟨S2, hS2⟩ : ∃ S2, S2 = S1 ++ sepT sep := ⟨_, rfl⟩
          have hS2l : S2.length ≤ 4102 := by rw [hS2, HS1.out, List.length_append, List.length_append, List.length_replicate]; omega
          rw [← hS2] at HC2
          clear hcut hS2 HC HOw HM HI HSp x1 x3 hmb HS1
          go_wp2
          go_loopw [3, 5] (fun b i wr => ∃ (k : Nat), k ≤ G ∧ i = .int .i64 (k : Int) ∧ Hid (BSt w1 wr b (S2 ++ List.replicate k 48))) (fun _ i _ => G - (intOf i).toNat)
          case atStart => exact ⟨0, Nat.zero_le _, rfl, by rw [List.replicate_zero, List.append_nil]; exact HC2.out⟩
          case round =>
            obtain ⟨k, hk, rfl, HI⟩ := hrel
            obtain ⟨x0, x1, x2, x3, x4, _⟩ := HBw.out _ HI.out.bl
            have HSz := HI.out.size
            by_cases hlt : k < G
            · obtain ⟨m, hm⟩ : ∃ m, m = (S2 ++ List.replicate k 48).length := ⟨_, rfl⟩
              have hmb : m ≤ 10000 := by rw [hm, List.length_append, List.length_replicate]; omega
              have HOw : Hid (wr.ownsRow w1.heap.size 5 1 u3 m ((S2 ++ List.replicate k 48).map u8v)) := by rw [hm]; exact HI.out.own
              have HM := Lib.hid hm
              clear hm x0 x3 x4
              go_wp2_with (at_builtin; refine wpList_app1 rfl (.tmp 75) (.tmp 76) 36 rfl w1.heap.size 5 (.int .u8 0) 1 Try.underlying36 Try.infoU8 rfl u3 m _ rfl HOw.out _ rfl rfl (by omega) (by unfold maxLen; omega) HSz ?_; intro v' w' hown hg hn)
              rw [HM.out] at hown
              have HF := Lib.hid (HI.out.step (c := 48) hown hg)
              clear hown hg hn
              go_wp2
              go_roundw
              case rel => exact ⟨k + 1, hlt, by go_num, by have h := HF.out; rw [List.append_assoc, ← List.replicate_succ'] at h; exact h⟩
              case measure => simp [intOf]; omega
            · obtain rfl : G = k := by omega
              clear x0 x1 x3
              have HBl := Lib.hid HI.out.bl
              have hcv := HI.out.conv
              obtain ⟨S3, hS3⟩ : ∃ S3, S3 = S2 ++ List.replicate G 48 := ⟨_, rfl⟩
              have hS3l : S3.length ≤ 8202 := by rw [hS3, List.length_append, List.length_replicate]; omega
              rw [← hS3] at hcv
              have hadd := fun (wv : World) => add_run (P := Try.prog) S3 L (by omega) wv
              have hTl : (S3 ++ L).length ≤ 100000 := by rw [List.length_append]; omega
              clear hS3 HI HC2
              generalize S3 ++ L = T at *
              have HP1 := Lib.hid (fun (wv : World) => dParse (w := wv) (L := T) hTl)
              have HP2 := Lib.hid (fun (wv : World) => r4Parse (w := wv) (L := T) hTl)
              have HSm : Hid (∀ (wv : World) (v u : Value), RatV wv v (parseL T).1 → RatV wv u (parseL T).1 → Calls Try.prog 16 #[v, u] wv fun e w' => e = .returned (.bool true) ∧ Below wv.heap.size wv w') := fun wv v u hv hu => (r3Same hv hu).mono fun e w' ⟨he, hb⟩ => ⟨by rw [he, decide_eq_true rfl], hb⟩
              have hsT := Str_size T
              generalize parseL T = r at *
              obtain ⟨x, ps, er⟩ := r
              have HB2 := Lib.hid (HB1.out.trans (HBl.out.mono HB1.out.size))
              go_wp2_with fail
              refine (HP1.out _).mono ?_
              rintro e w2 ⟨v, rfl, k2, hb2⟩
              obtain ⟨an, ad, cn, cd, rfl, h2, h3, h4, h5⟩ := k2.ex
              have hb3 : Below w2.heap.size w2 (w2.alloc (.cells #[.bool x.neg, .slice an x.num.length cn, .slice ad x.den.length cd] 25)) := (Below.refl _ w2).alloc (Nat.le_refl _) _
              have HBx2 := Lib.hid (Box3.alloc w2 (.bool x.neg) (.slice an x.num.length cn) (.slice ad x.den.length cd) 25)
              have HV := Lib.hid (k2.below hb3)
              have HB3 := Lib.hid (HB2.out.trans ((hb2.trans (hb3.mono hb2.size)).mono HB2.out.size))
              obtain ⟨g, hg⟩ : ∃ g, g = w2.heap.size := ⟨_, rfl⟩
              clear hb3 k2 h4 h5 hb2 hcv hadd x4 x2
              go_upto_region 18 with fail
              rw [← hg] at HBx2 ⊢
              generalize w2.alloc (.cells #[.bool x.neg, .slice an x.num.length cn, .slice ad x.den.length cd] 25) = W3 at *
              clear hg
              go_wp2_with fail
              refine (HP2.out _).mono ?_
              rintro e w3 ⟨v, rfl, k3, hb3⟩
              obtain ⟨bn, bd, dn, dd, rfl, g2, g3, g4, g5⟩ := k3.ex
              have hb4 : Below w3.heap.size w3 (w3.alloc (.cells #[.bool x.neg, .slice bn x.num.length dn, .slice bd x.den.length dd] 25)) := (Below.refl _ w3).alloc (Nat.le_refl _) _
              have HBy := Lib.hid (Box3.alloc w3 (.bool x.neg) (.slice bn x.num.length dn) (.slice bd x.den.length dd) 25)
              have hbb := hb3.trans (hb4.mono hb3.size)
              have HU := Lib.hid (k3.below hb4)
              have HV3 := Lib.hid (HV.out.below hbb)
              have HBx3 := Lib.hid (HBx2.out.below hbb)
              have HB4 := Lib.hid (HB3.out.trans (hbb.mono HB3.out.size))
              obtain ⟨g', hg⟩ : ∃ g, g = w3.heap.size := ⟨_, rfl⟩
              clear hb3 k3 g4 g5 hb4 hbb HB2 HV HBx2
              go_upto_region 19 with fail
              rw [← hg] at HBy ⊢
              generalize w3.alloc (.cells #[.bool x.neg, .slice bn x.num.length dn, .slice bd x.den.length dd] 25) = W4 at *
              clear hg
              obtain ⟨x0, x1, x2, _, xlt⟩ := HBx3.out
              obtain ⟨y0, y1, y2, _, ylt⟩ := HBy.out
              go_wp2_with fail
              refine (HSm.out _ _ _ HV3.out HU.out).mono ?_
              rintro e w5 ⟨rfl, hb5⟩
              have HB5 := Lib.hid (HB4.out.trans (hb5.mono HB4.out.size))
              clear hb5
              go_wp2
              go_ret
              exact ⟨rfl, HB5.out⟩

end Go.Proofs.Ytfmhedfiklidhaa

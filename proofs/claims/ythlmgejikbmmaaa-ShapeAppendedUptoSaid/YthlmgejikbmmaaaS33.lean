/-
  Contracts of the functions that the statements reach, in the order in which they are built: ModY, ModZ, ModOB, ModPre.
-/
import Derived.Test.YthlmgejikbmmaaaS31
import Derived.Test.YthlmgejikbmmaaaS25
set_option linter.unusedVariables false
set_option linter.unusedSimpArgs false
set_option linter.constructorNameAsVariable false
set_option linter.deprecated false

/-
  The walk of ShapeOut: by contract. Printed by genModY.py.
-/
namespace Go.Proofs.Ythlmgejikbmmaaa
open Go.RowKit

theorem rInts_ok {w : World} {F G : Nat → Prop} {a b : Option Addr} {l m : List Int} (ca cb : Nat) (h : Ints w F a l) (g : Ints w G b m) {t : Bool} (hp : sameL l m = t) :
    Calls Try.prog 17 #[.slice a l.length ca, .slice b m.length cb] w fun e w' => e = .returned (.bool t) ∧ Below w.heap.size w w' := by
  subst hp
  refine (rInts ca cb h g).mono ?_
  rintro e w' ⟨rfl, n, rfl⟩
  exact ⟨rfl, below_drewN (Below.refl _ _) _⟩
theorem sameL_self (l : List Int) : sameL l l = true := by simp [sameL]
set_option maxRecDepth 100000 in
set_option maxHeartbeats 3200000 in
theorem lawOut {w : World} {u : Value} {input : List Int} {S : List (List Int)} {l : LayL} {ai ash : Option Addr} (ci cs : Nat) (hi : Ints w Any ai input) (hS : Intss w Any ash S) (hu : LayV w u l) (hr : LayRange l) (hle : LayLe l) :
    Calls Try.prog 3 #[.slice ai input.length ci, .slice ash S.length cs, u] w fun e w' => e = .returned (.bool true) ∧ Below w.heap.size w w' := by
  obtain ⟨b1, b2, d1, d2, rfl, r1, r2⟩ := hu.ex
  have q1 := hi.len
  have q2 := hS.len
  have q3 := r1.len
  have q4 := r2.len
  have HI := Lib.hid hi
  have HS := Lib.hid hS
  have HU := Lib.hid hu
  have HRg := Lib.hid hr
  have HLe := Lib.hid hle
  have hbA : Below w.heap.size w (w.alloc (.cells #[.int .i64 l.kind, .int .i64 l.frm, .int .i64 l.out, .int .i64 l.kh, .int .i64 l.kw, .int .i64 l.stride, .int .i64 l.pad, .slice b1 l.weights.length d1, .slice b2 l.bias.length d2] 26)) := (Below.refl _ _).alloc (Nat.le_refl _) _
  have hx := Box9.alloc w (.int .i64 l.kind) (.int .i64 l.frm) (.int .i64 l.out) (.int .i64 l.kh) (.int .i64 l.kw) (.int .i64 l.stride) (.int .i64 l.pad) (.slice b1 l.weights.length d1) (.slice b2 l.bias.length d2) 26
  clear hi hS hu hr hle r1 r2
  go_enter Try.func3, Try.ntmps3
  go_upto_region 1 with fail
  generalize w.alloc (.cells #[.int .i64 l.kind, .int .i64 l.frm, .int .i64 l.out, .int .i64 l.kh, .int .i64 l.kw, .int .i64 l.stride, .int .i64 l.pad, .slice b1 l.weights.length d1, .slice b2 l.bias.length d2] 26) = W at *
  have HB := Lib.hid hbA
  have HX := Lib.hid hx
  clear hbA hx
  go_wp2_with fail
  refine (awake13 W).mono ?_
  rintro e w1 ⟨rfl, hb1⟩
  have HB1 := Lib.hid (HB.out.trans (hb1.mono HB.out.size))
  have HX1 := Lib.hid (HX.out.below hb1)
  clear hb1 HX
  have HZ := Lib.hid (rSize ci (HI.out.below HB1.out))
  generalize hsz : sizeL input = sz at HZ
  clear hsz
  obtain ⟨x0, x1, x2, x3, x4, x5, x6, x7, x8, xlt⟩ := HX1.out
  by_cases g0 : S.length ≤ 8
  · by_cases g1 : sz ≤ 200
    · go_wp2_with fail
      refine HZ.out.mono ?_
      rintro e w1' ⟨rfl, rfl⟩
      by_cases g2 : l.weights.length ≤ 200
      · by_cases g3 : l.bias.length ≤ 200
        · go_wp2
          clear x0 x1 x2 x3 x4 x5 x6 x7 x8 xlt
          go_loopw [7] (fun i wr => ∃ j : Nat, j ≤ S.length ∧ i = .int .i64 (j : Int) ∧ Hid (w1 = wr)) (fun i _ => S.length - (intOf i).toNat)
          case atStart => exact ⟨0, Nat.zero_le _, rfl, rfl⟩
          case round =>
            obtain ⟨j, hj, rfl, HW⟩ := hrel
            have ew := HW.out
            clear HW
            subst ew
            by_cases hlt : j < S.length
            · obtain ⟨bs, os, row, as1, ct, rfl, hcell, _, _, hrow, hbl, _⟩ := (HS.out.below HB1.out).pickc hlt
              have HR := Lib.hid (rSize ct hrow)
              generalize hsr : sizeL row = sr at HR
              have hrl := hrow.len
              clear hsr hrow
              by_cases g4 : sr ≤ 200
              · go_wp2_with fail
                refine HR.out.mono ?_
                rintro e w2 ⟨rfl, rfl⟩
                go_wp2
                go_roundw
                case rel => exact ⟨j + 1, hlt, by go_num, by first | rfl | exact True.intro⟩
                case measure => simp [intOf]; omega
              · go_wp2_with fail
                refine HR.out.mono ?_
                rintro e w2 ⟨rfl, rfl⟩
                go_wp2
                go_ret
                exact ⟨rfl, HB1.out⟩
            · obtain rfl : j = S.length := by omega
              obtain ⟨x0, x1, x2, x3, x4, x5, x6, x7, x8, xlt⟩ := HX1.out
              have HO := Lib.hid (sOut ci cs (HI.out.below HB1.out) (HS.out.below HB1.out) (HU.out.below HB1.out) HRg.out HLe.out (by omega))
              obtain ⟨P, hP⟩ : ∃ P, outSL input S l = P := ⟨_, rfl⟩
              rw [hP] at HO
              have HP := Lib.hid hP
              clear hP
              obtain ⟨T, er⟩ := P
              go_wp2_with fail
              refine HO.out.mono ?_
              rintro e w3 ⟨⟨a, c, rfl, hT, hTc⟩, hb3⟩
              have HB3 := Lib.hid (HB1.out.trans (hb3.mono HB1.out.size))
              have HX3 := Lib.hid (HX1.out.below hb3)
              have HT := Lib.hid (hT.mono (F' := Any) (fun _ _ _ => trivial))
              clear hb3 hT hTc HO x0 x1 x2 x3 x4 x5 x6 x7 x8 xlt
              simp only
              obtain ⟨x0, x1, x2, x3, x4, x5, x6, x7, x8, xlt⟩ := HX3.out
              have HO := Lib.hid (r13Out ci cs (HI.out.below HB3.out) (HS.out.below HB3.out) (HU.out.below HB3.out) HRg.out HLe.out (by omega))
              rw [HP.out] at HO
              have ql := HT.out.len
              simp only at ql
              go_wp2_with fail
              refine HO.out.mono ?_
              rintro e w4 ⟨⟨b, d, rfl, hU, hUd⟩, hb4⟩
              have HB4 := Lib.hid (HB3.out.trans (hb4.mono HB3.out.size))
              have HT4 := Lib.hid (HT.out.below hb4)
              have HU4 := Lib.hid (hU.mono (F' := Any) (fun _ _ _ => trivial))
              have HC := Lib.hid (rInts_ok c d HT4.out HU4.out (sameL_self T))
              simp only at HC
              have t2 : (er == er) = true := by simp
              clear hb4 hU hUd HO x0 x1 x2 x3 x4 x5 x6 x7 x8 xlt
              go_wp2_with fail
              refine HC.out.mono ?_
              rintro e w5 ⟨rfl, hb5⟩
              have HB5 := Lib.hid (HB4.out.trans (hb5.mono HB4.out.size))
              clear hb5
              go_wp2
              go_ret
              exact ⟨rfl, HB5.out⟩
        · go_wp2_with fail
          refine (awake13 w1).mono ?_
          rintro e v3 ⟨rfl, hb3⟩
          have HB3 := Lib.hid (HB1.out.trans (hb3.mono HB1.out.size))
          clear hb3 x0 x1 x2 x3 x4 x5 x6 x7 x8 xlt
          go_wp2
          go_ret
          exact ⟨rfl, HB3.out⟩
      · go_wp2_with fail
        refine (awake13 w1).mono ?_
        rintro e v3 ⟨rfl, hb3⟩
        have HB3 := Lib.hid (HB1.out.trans (hb3.mono HB1.out.size))
        clear hb3 x0 x1 x2 x3 x4 x5 x6 x7 x8 xlt
        go_wp2
        go_ret
        exact ⟨rfl, HB3.out⟩
    · go_wp2_with fail
      refine HZ.out.mono ?_
      rintro e w1' ⟨rfl, rfl⟩
      go_wp2_with fail
      refine (awake13 w1).mono ?_
      rintro e v3 ⟨rfl, hb3⟩
      have HB3 := Lib.hid (HB1.out.trans (hb3.mono HB1.out.size))
      clear hb3 x0 x1 x2 x3 x4 x5 x6 x7 x8 xlt
      go_wp2
      go_ret
      exact ⟨rfl, HB3.out⟩
  · go_wp2_with fail
    refine (awake13 w1).mono ?_
    rintro e v3 ⟨rfl, hb3⟩
    have HB3 := Lib.hid (HB1.out.trans (hb3.mono HB1.out.size))
    clear hb3 x0 x1 x2 x3 x4 x5 x6 x7 x8 xlt
    go_wp2
    go_ret
    exact ⟨rfl, HB3.out⟩

end Go.Proofs.Ythlmgejikbmmaaa

/-
  The walk of ShapeSizes: by contract. Printed by genModZ.py.
-/
namespace Go.Proofs.Ythlmgejikbmmaaa
open Go.RowKit

theorem currL_snoc (input : List Int) (S : List (List Int)) (s : List Int) : currL input (S ++ [s]) = s := by simp [currL]
theorem Chain.step {input : List Int} {T : List (List Int)} {L : List LayL} (h : Chain input [] T L) {j : Nat} {s : List Int} {l : LayL} (hs : T[j]? = some s) (hl : L[j]? = some l) :
    1 ≤ sizeL s ∧ (5 ≤ l.kind → sizeL s = sizeL (currL input (T.take j))) ∧ currL input (T.take (j + 1)) = s := by
  have h1 := h.2 j s l hs hl
  rw [List.nil_append] at h1
  have h0 : (outSL input (T.take j) l).2 = 0 := by rw [h1]
  refine ⟨?_, fun hk => ?_, ?_⟩
  · have := outSL_valid h0
    rw [h1] at this
    exact (validL_size this).1
  · have := outSL_keeps h0 hk
    rw [h1] at this
    exact this
  · rw [take_succ_at hs]; exact currL_snoc _ _ _

set_option maxRecDepth 100000 in
set_option maxHeartbeats 3200000 in
theorem lawSizes {w : World} {m : ModL} {a1 a2 : Option Addr} (c1 c2 : Nat) (h1 : Ints w Any a1 m.input) (h2 : LaysAt w a2 m.layers) (hr : ∀ l ∈ m.layers, LayRange l) (hs : ∀ l ∈ m.layers, LayLe l) :
    Calls Try.prog 6 #[.agg #[.slice a1 m.input.length c1, .slice a2 m.layers.length c2]] w fun e w' => e = .returned (.bool true) ∧ Below w.heap.size w w' := by
  have q1 := h1.len
  have q2 := h2.len
  have H1 := Lib.hid h1
  have H2 := Lib.hid h2
  have HRg := Lib.hid hr
  have HSh := Lib.hid hs
  have hbA : Below w.heap.size w (w.alloc (.cells #[.slice a1 m.input.length c1, .slice a2 m.layers.length c2] 36)) := (Below.refl _ _).alloc (Nat.le_refl _) _
  have hx := Box2.alloc w (.slice a1 m.input.length c1) (.slice a2 m.layers.length c2) 36
  clear h1 h2 hr hs
  go_enter Try.func6, Try.ntmps6
  go_upto_region 1 with fail
  generalize w.alloc (.cells #[.slice a1 m.input.length c1, .slice a2 m.layers.length c2] 36) = W at *
  have HB := Lib.hid hbA
  have HX := Lib.hid hx
  clear hbA hx
  go_wp2_with fail
  refine (awake13 W).mono ?_
  rintro e w1 ⟨rfl, hb1⟩
  have HB1 := Lib.hid (HB.out.trans (hb1.mono HB.out.size))
  have HX1 := Lib.hid (HX.out.below hb1)
  obtain ⟨x0, x1, xf, xlt⟩ := HX1.out
  have HF := Lib.hid (kFair c1 c2 (H1.out.below HB1.out) (H2.out.below HB1.out))
  clear hb1 HX
  cases hf : fairL m with
  | false =>
    rw [hf] at HF
    clear hf
    go_wp2_with fail
    refine HF.out.mono ?_
    rintro e w2 ⟨rfl, hb2⟩
    have HB2 := Lib.hid (HB1.out.trans (hb2.mono HB1.out.size))
    clear hb2 x0 x1 xf xlt
    go_wp2_with fail
    refine (awake13 w2).mono ?_
    rintro e w3 ⟨rfl, hb3⟩
    have HB3 := Lib.hid (HB2.out.trans (hb3.mono HB2.out.size))
    clear hb3
    go_wp2
    go_ret
    exact ⟨rfl, HB3.out⟩
  | true =>
    rw [hf] at HF
    clear hf
    go_wp2_with fail
    refine HF.out.mono ?_
    rintro e w2 ⟨rfl, hb2⟩
    have HB2 := Lib.hid (HB1.out.trans (hb2.mono HB1.out.size))
    have HX2 := Lib.hid (HX1.out.below hb2)
    clear hb2 x0 x1 xf xlt
    obtain ⟨x0, x1, xf, xlt⟩ := HX2.out
    have HO := Lib.hid (sOf c1 c2 (H1.out.below HB2.out) (H2.out.below HB2.out) HRg.out HSh.out)
    rcases shapesL_cases m with ⟨hv, hP⟩ | ⟨hv, ⟨T, hch, hP⟩ | ⟨hP, hQ⟩⟩
    · rw [hP] at HO
      have HV := Lib.hid hv
      clear hv hP
      go_wp2_with fail
      refine HO.out.mono ?_
      rintro e w3 ⟨⟨a, c, rfl, hT⟩, hb3⟩
      have HB3 := Lib.hid (HB2.out.trans (hb3.mono HB2.out.size))
      have HX3 := Lib.hid (HX2.out.below hb3)
      clear hb3 hT HO x0 x1 xf xlt
      simp only
      obtain ⟨x0, x1, xf, xlt⟩ := HX3.out
      have HM := Lib.hid (r12Valid c1 c2 (H1.out.below HB3.out) (H2.out.below HB3.out) HRg.out HSh.out)
      rw [HV.out] at HM
      go_wp2_with fail
      refine HM.out.mono ?_
      rintro e w4 ⟨rfl, hb4⟩
      have HB4 := Lib.hid (HB3.out.trans (hb4.mono HB3.out.size))
      clear hb4 x0 x1 xf xlt
      go_wp2
      go_ret
      exact ⟨rfl, HB4.out⟩
    · rw [hP] at HO
      have HCh := Lib.hid hch
      clear hv hP hch
      go_wp2_with fail
      refine HO.out.mono ?_
      rintro e w3 ⟨⟨a, c, rfl, hT⟩, hb3⟩
      have HB3 := Lib.hid (HB2.out.trans (hb3.mono HB2.out.size))
      have HX3 := Lib.hid (HX2.out.below hb3)
      have HT := Lib.hid (hT.mono (F' := Any) (fun _ _ _ => trivial))
      clear hb3 hT HO x0 x1 xf xlt
      simp only
      have ql := HT.out.len
      simp only at ql
      obtain ⟨x0, x1, xf, xlt⟩ := HX3.out
      have HZ := Lib.hid (rSize c1 (H1.out.below HB3.out))
      have HCu := Lib.hid (show sizeL m.input = sizeL (currL m.input (T.take 0)) by simp [currL])
      generalize sizeL m.input = sz at HZ HCu
      have HLen := Lib.hid HCh.out.1
      go_wp2_with fail
      refine HZ.out.mono ?_
      rintro e w3' ⟨rfl, rfl⟩
      clear x0 x1 xf xlt
      go_wp2
      go_loopw [6, 7, 8] (fun s i _ wr => ∃ (j : Nat) (z : Int), j ≤ T.length ∧ i = .int .i64 (j : Int) ∧ s = .int .i64 z ∧ Hid (z = sizeL (currL m.input (T.take j))) ∧ Hid (w3 = wr)) (fun _ i _ _ => T.length - (intOf i).toNat)
      case atStart => exact ⟨0, sz, Nat.zero_le _, rfl, rfl, HCu.out, by first | rfl | exact True.intro⟩
      case round =>
        obtain ⟨j, z, hj, rfl, rfl, HZj, HW⟩ := hrel
        have ew := HW.out
        clear HW
        subst ew
        obtain ⟨x0, x1, xf, xlt⟩ := HX3.out
        by_cases hlt : j < T.length
        · obtain ⟨bs, os, row, as1, ct, rfl, hcell, hrowAt, _, hrow, hbs, _⟩ := HT.out.pickc hlt
          obtain ⟨bl, ol, l, rfl, hbl, hl, b1, b2, d1, d2, ⟨l0, l1, l2, l3, l4, l5, l6, l7, l8⟩, r1, r2⟩ := (H2.out.below HB3.out).pick (k := j) (by rw [← HLen.out]; exact hlt)
          have HStep := Lib.hid (HCh.out.step hrowAt hl)
          rw [← HZj.out] at HStep
          have hRow := Lib.hid hrowAt
          have HR := Lib.hid (rSize ct hrow)
          have hrl := hrow.len
          clear hl r1 r2 hrowAt hrow l1 l2 l3 l4 l5 l6 l7 l8
          have hjl : j < m.layers.length := by have := HLen.out; omega
          obtain ⟨sr, hsr⟩ : ∃ sr, sizeL row = sr := ⟨_, rfl⟩
          rw [hsr] at HR HStep
          have Hsr := Lib.hid hsr
          clear hsr
          have n0 : (sr == 0) = false := by have := HStep.out.1; rw [beq_eq_false_iff_ne]; omega
          have n1 : ¬ sr = 0 := by have := HStep.out.1; omega
          by_cases hk : 5 ≤ l.kind
          · have e := HStep.out.2.1 hk
            subst e
            have n2 : (sr != sr) = false := by simp
            go_wp2_with fail
            refine HR.out.mono ?_
            rintro e w4 ⟨rfl, rfl⟩
            go_wp2
            go_roundw
            case rel => exact ⟨j + 1, sr, hlt, by go_num, rfl, by unfold Hid; rw [HStep.out.2.2, Hsr.out], by first | rfl | exact True.intro⟩
            case measure => simp [intOf]; omega
          · go_wp2_with fail
            refine HR.out.mono ?_
            rintro e w4 ⟨rfl, rfl⟩
            go_wp2
            go_roundw
            case rel => exact ⟨j + 1, sr, hlt, by go_num, rfl, by unfold Hid; rw [HStep.out.2.2, Hsr.out], by first | rfl | exact True.intro⟩
            case measure => simp [intOf]; omega
        · obtain rfl : j = T.length := by omega
          go_wp2
          go_ret
          exact ⟨rfl, HB3.out⟩
    · obtain ⟨P, hR⟩ : ∃ P, shapesL m = P := ⟨_, rfl⟩
      rw [hR] at HO hP hQ
      obtain ⟨T, i, er⟩ := P
      simp only at hP hQ
      subst hP hQ
      clear hv hR
      go_wp2_with fail
      refine HO.out.mono ?_
      rintro e w3 ⟨⟨a, c, rfl, hT⟩, hb3⟩
      have HB3 := Lib.hid (HB2.out.trans (hb3.mono HB2.out.size))
      clear hb3 hT HO x0 x1 xf xlt
      simp only
      go_wp2
      go_ret
      exact ⟨rfl, HB3.out⟩

end Go.Proofs.Ythlmgejikbmmaaa

/-
  The program's shape.Of: by contract, the capacity of what it returns too. Printed by genModOB.py.
-/
namespace Go.Proofs.Ythlmgejikbmmaaa
open Go.RowKit

/-- The shapes of a model, in new memory, or where it stops, and an error. -/
def OfPostC (w : World) (p : List (List Int) × Int × Int) (e : Ending) (w' : World) : Prop :=
  (∃ a c, e = .returned (.tuple #[.slice a p.1.length c, .int .i64 p.2.1, .int .i64 p.2.2]) ∧ Intss w' (fun b => w.heap.size ≤ b) a p.1 ∧ p.1.length ≤ c) ∧ Below w.heap.size w w'
theorem ofPostC_err {w w' : World} {p : List (List Int) × Int × Int} {i n : Int} (h : p = ([], i, n)) (hb : Below w.heap.size w w') : OfPostC w p (.returned (.tuple #[.slice none 0 0, .int .i64 i, .int .i64 n])) w' := by
  subst h; exact ⟨⟨none, 0, rfl, Intss.nil _ _ _, Nat.le_refl _⟩, hb⟩
theorem OwnSS.cap {w : World} {base E : Nat} {v : Value} {xs : List Value} {L : List (List Int)} {a : Option Addr} {c : Nat} (h : OwnSS w base E v xs L) (hv : v = .slice a L.length c) : L.length ≤ c := by
  rcases h.own.2 with ⟨rfl, hn⟩ | ⟨g, cap, cur, rfl, hb, hg, hnc, hcm, hcs, htake⟩
  · rw [hn]; exact Nat.zero_le _
  · simp only [Value.slice.injEq] at hv
    rw [← hv.2.2]; exact hnc

set_option maxRecDepth 100000 in
set_option maxHeartbeats 6400000 in
theorem sOfC {w : World} {m : ModL} {a1 a2 : Option Addr} (c1 c2 : Nat) (h1 : Ints w Any a1 m.input) (h2 : LaysAt w a2 m.layers) (hr : ∀ l ∈ m.layers, LayRange l) (hs : ∀ l ∈ m.layers, LayLe l) :
    Calls Try.prog 19 #[.agg #[.slice a1 m.input.length c1, .slice a2 m.layers.length c2]] w (OfPostC w (shapesL m)) := by
  have q1 := h1.len
  have q2 := h2.len
  have H1 := Lib.hid h1
  have H2 := Lib.hid h2
  have HRg := Lib.hid hr
  have HSh := Lib.hid hs
  generalize hR : shapesL m = RR
  have HR := Lib.hid hR
  unfold shapesL at hR
  have HRd := Lib.hid hR
  clear h1 h2 hr hs hR
  go_enter Try.func19, Try.ntmps19
  go_upto_region 1 with fail
  have hb0 : Below w.heap.size w (w.alloc (.cells #[.slice a1 m.input.length c1, .slice a2 m.layers.length c2] 36)) := (Below.refl _ _).alloc (Nat.le_refl _) _
  have hx := Box2.alloc w (.slice a1 m.input.length c1) (.slice a2 m.layers.length c2) 36
  generalize w.alloc (.cells #[.slice a1 m.input.length c1, .slice a2 m.layers.length c2] 36) = W at *
  have HB0 := Lib.hid hb0
  have HX := Lib.hid hx
  obtain ⟨x0, x1, xf, xlt⟩ := hx
  clear hb0
  go_wp2_with fail
  refine (mValid c1 c2 (H1.out.below HB0.out) (H2.out.below HB0.out) HRg.out HSh.out).mono ?_
  rintro e w1 ⟨rfl, hb1⟩
  have HX1 := Lib.hid (HX.out.below hb1)
  have HB1 := Lib.hid (HB0.out.trans (hb1.mono HB0.out.size))
  clear hb1 x0 x1 xf xlt
  cases hvm : validM m with
  | false =>
    have HF : Hid (RR = ([], 0, 1)) := by unfold Hid; rw [← HRd.out, hvm]; rfl
    clear hvm
    go_wp2
    refine bodyPost_ret (results_tmp3 rfl _ _ _) rfl ?_
    exact ofPostC_err HF.out HB1.out
  | true =>
    have HRe : Hid (shapesFrom m.input [] m.layers = RR) := by have := HRd.out; rw [hvm, if_pos rfl] at this; exact this
    have hv := validM_at hvm
    have HL64 := Lib.hid hv.2.1
    have hl64 := hv.2.1
    obtain ⟨x0, x1, xf, xlt⟩ := HX1.out
    clear hvm hv
    go_wp2
    clear x0 x1 xf xlt
    go_loopw [5, 16] (fun u i wr => ∃ (j : Nat) (xs : List Value) (T : List (List Int)), j ≤ m.layers.length ∧ i = .int .i64 (j : Int) ∧ Hid (T.length = j) ∧ Hid (shapesFrom m.input T (m.layers.drop j) = RR) ∧ Hid (OwnSS wr w1.heap.size 22 u xs T) ∧ Hid (Below w1.heap.size w1 wr)) (fun _ i _ => m.layers.length - (intOf i).toNat)
    case atStart => exact ⟨0, [], [], Nat.zero_le _, rfl, rfl, HRe.out, OwnSS.nil _ _ _, Below.refl _ _⟩
    case round =>
      obtain ⟨j, xs, T, hj, rfl, HTl, HS, HOw, HB⟩ := hrel
      have hbw := HB1.out.trans (HB.out.mono HB1.out.size)
      obtain ⟨av, cv, hu, hT⟩ := HOw.out.intss (by rw [HTl.out]; omega)
      have HCap := Lib.hid (HOw.out.cap hu)
      rw [HTl.out] at hu
      subst hu
      by_cases hlt : j < m.layers.length
      · obtain ⟨x0, x1, xf, xlt⟩ := HX1.out.below HB.out
        obtain ⟨bl, ol, l, rfl, hbl, hl, b1, b2, d1, d2, ⟨l0, l1, l2, l3, l4, l5, l6, l7, l8⟩, r1, r2⟩ := (H2.out.below hbw).pick hlt
        have hmem := List.mem_of_getElem? hl
        have hdrop : m.layers.drop j = l :: m.layers.drop (j + 1) := by
          rw [List.drop_eq_getElem_cons hlt]
          congr 1
          rw [List.getElem?_eq_getElem hlt] at hl
          exact Option.some.inj hl
        have HStep : Hid ((if (outSL m.input T l).2 = 0 then shapesFrom m.input (T ++ [(outSL m.input T l).1]) (m.layers.drop (j + 1)) else ([], (j : Int), (outSL m.input T l).2)) = RR) := by
          have := HS.out
          rw [hdrop, shapesFrom_cons, HTl.out] at this
          exact this
        have hbV : Below wr.heap.size wr (wr.alloc (.cells #[.int .i64 l.kind, .int .i64 l.frm, .int .i64 l.out, .int .i64 l.kh, .int .i64 l.kw, .int .i64 l.stride, .int .i64 l.pad, .slice b1 l.weights.length d1, .slice b2 l.bias.length d2] 26)) := (Below.refl _ _).alloc (Nat.le_refl _) _
        have hbW := hbw.trans (hbV.mono hbw.size)
        have HO := Lib.hid (sOut (u := .agg #[.int .i64 l.kind, .int .i64 l.frm, .int .i64 l.out, .int .i64 l.kh, .int .i64 l.kw, .int .i64 l.stride, .int .i64 l.pad, .slice b1 l.weights.length d1, .slice b2 l.bias.length d2]) c1 cv (H1.out.below hbW) ((hT.mono (F' := Any) (fun _ _ _ => trivial)).below hbV) ⟨b1, b2, d1, d2, rfl, r1.below hbV, r2.below hbV⟩ (HRg.out l hmem) (HSh.out l hmem) (by rw [HTl.out]; omega))
        have HBV := Lib.hid hbV
        have p1 := r1.len
        have p2 := r2.len
        rw [HTl.out] at HO
        clear hmem hl hdrop hbV hbW hbw hT r1 r2 HS
        go_wp2_with fail
        refine HO.out.mono ?_
        rintro e w2 ⟨⟨a5, c5, rfl, hI5, hc5⟩, hb2⟩
        have HB2 := Lib.hid (HB.out.trans ((HBV.out.trans (hb2.mono HBV.out.size)).mono HB.out.size))
        have HOw2 := Lib.hid (HOw.out.frame (HBV.out.trans (hb2.mono HBV.out.size)))
        have HI5 := Lib.hid hI5
        have HC5 := Lib.hid hc5
        have HLt : Hid (∀ b, (Value.slice av j cv).ownBlock = some b → b < (wr.alloc (.cells #[.int .i64 l.kind, .int .i64 l.frm, .int .i64 l.out, .int .i64 l.kh, .int .i64 l.kw, .int .i64 l.stride, .int .i64 l.pad, .slice b1 l.weights.length d1, .slice b2 l.bias.length d2] 26)).heap.size) := fun b hb => by have := HOw.out.lt b hb; simp; omega
        generalize wr.alloc (.cells #[.int .i64 l.kind, .int .i64 l.frm, .int .i64 l.out, .int .i64 l.kh, .int .i64 l.kw, .int .i64 l.stride, .int .i64 l.pad, .slice b1 l.weights.length d1, .slice b2 l.bias.length d2] 26) = V at *
        have hgeV : Hid (w1.heap.size ≤ V.heap.size) := Nat.le_trans HB.out.size HBV.out.size
        generalize outSL m.input T l = P at *
        obtain ⟨o, er⟩ := P
        simp only at HI5 HC5 HStep ⊢
        clear x0 x1 xf xlt l0 l1 l2 l3 l4 l5 l6 l7 l8 hI5 hc5 hb2 HO
        by_cases he : er = 0
        · have HStep2 : Hid (shapesFrom m.input (T ++ [o]) (m.layers.drop (j + 1)) = RR) := by have := HStep.out; rw [if_pos he] at this; exact this
          have t1 : (er != 0) = false := by rw [he]; rfl
          have t2 : (er == 0) = true := by rw [he]; rfl
          have t3 : decide (¬ er = 0) = false := by simp [he]
          have HTj := Lib.hid (show j < 64 by omega)
          clear he
          go_wp2_with (at_builtin; refine wpList_app1 rfl (.tmp 33) (.tmp 35) 23 rfl w1.heap.size 22 (.slice none 0 0) 24 Try.underlying23 (by kernel_rfl) rfl (.slice av j cv) j xs rfl (by have h := HOw2.out.own; rw [HTl.out] at h; exact h) (.slice a5 o.length c5) rfl rfl (by have := HTj.out; omega) (by have := HTj.out; unfold maxLen; omega) (by exact HB2.out.size) ?_; intro v' w' hown hg hn2; have HOwn := Lib.hid hown; have HG := Lib.hid hg; have HN2 := Lib.hid hn2; clear hown hg hn2)
          have happ := HOw2.out.app (l := o) HI5.out HC5.out (fun b hb => ⟨Nat.le_trans hgeV.out hb, fun e => by have := HLt.out b e; omega⟩) (by rw [HTl.out]; exact HOwn.out) HG.out HN2.out
          have HApp := Lib.hid happ
          have HB3 := Lib.hid (HB2.out.grown HG.out HB2.out.size (fun k hk => (HOw2.out.own.lt k hk).1))
          clear happ
          go_roundw
          case rel => exact ⟨j + 1, _, T ++ [o], hlt, by go_num, by unfold Hid; rw [List.length_append, HTl.out]; rfl, HStep2.out, HApp.out, HB3.out⟩
          case measure => simp [intOf]; omega
        · have HF : Hid (RR = ([], (j : Int), er)) := by unfold Hid; rw [← HStep.out, if_neg he]
          have t1 : (er != 0) = true := by rw [bne_iff_ne]; exact he
          have t2 : (er == 0) = false := by rw [beq_eq_false_iff_ne]; exact he
          have t3 : decide (¬ er = 0) = true := by simp [he]
          clear he
          go_wp2
          refine bodyPost_ret (results_tmp3 rfl _ _ _) rfl ?_
          exact ofPostC_err HF.out (HB1.out.trans (HB2.out.mono HB1.out.size))
      · obtain rfl : j = m.layers.length := by omega
        have HF : Hid (RR = (T, 0, 0)) := by
          have h := HS.out
          rw [List.drop_length] at h
          exact h.symm
        have HT := Lib.hid hT
        have HBw := Lib.hid hbw
        clear hT hbw
        go_wp2
        refine bodyPost_ret (results_tmp3 rfl _ _ _) rfl ?_
        rw [HF.out]
        exact ⟨⟨av, cv, by simp only [HTl.out]; rfl, HT.out.mono (fun b _ hb => Nat.le_trans HB1.out.size hb), HCap.out⟩, HBw.out⟩

end Go.Proofs.Ythlmgejikbmmaaa

/-
  The walk of ShapePrefix: by contract. Printed by genModPre.py.
-/
namespace Go.Proofs.Ythlmgejikbmmaaa
open Go.RowKit

theorem Intss.take {w : World} {F : Nat → Prop} {a : Option Addr} {L : List (List Int)} (h : Intss w F a L) (n : Nat) : Intss w F a (L.take n) := by
  refine ⟨by have := h.len; rw [List.length_take]; omega, ?_⟩
  rcases h.row with rfl | ⟨b, off, rfl, hF, hb, hc⟩
  · left; simp
  · refine .inr ⟨b, off, rfl, hF, hb, fun j x hj => hc j x ?_⟩
    rw [List.getElem?_take] at hj
    split at hj
    · exact hj
    · cases hj
theorem S2_keep {W w1 : World} {p : Nat} {q0 q1 : Value} (hh : Box2 W p q0 q1) (hb : Below W.heap.size W w1) : w1.cell? ⟨p, 0, none⟩ = some q0 ∧ w1.cell? ⟨p, 1, none⟩ = some q1 := ⟨(hb.cell hh.lt).trans hh.c0, (hb.cell hh.lt).trans hh.c1⟩

set_option maxRecDepth 100000 in
set_option maxHeartbeats 6400000 in
theorem lawPrefix {w : World} {m : ModL} {a1 a2 : Option Addr} (c1 c2 : Nat) (z : Int) (hz : -9223372036854775808 ≤ z ∧ z ≤ 9223372036854775807) (hc : m.layers.length ≤ c2) (h1 : Ints w Any a1 m.input) (h2 : LaysAt w a2 m.layers) (hr : ∀ l ∈ m.layers, LayRange l) (hs : ∀ l ∈ m.layers, LayLe l) :
    Calls Try.prog 5 #[.agg #[.slice a1 m.input.length c1, .slice a2 m.layers.length c2], .int .i64 z] w fun e w' => e = .returned (.bool true) ∧ Below w.heap.size w w' := by
  have q1 := h1.len
  have q2 := h2.len
  have H1 := Lib.hid h1
  have H2 := Lib.hid h2
  have HRg := Lib.hid hr
  have HSh := Lib.hid hs
  have hbA : Below w.heap.size w (w.alloc (.cells #[.slice a1 m.input.length c1, .slice a2 m.layers.length c2] 36)) := (Below.refl _ _).alloc (Nat.le_refl _) _
  have hx := Box2.alloc w (.slice a1 m.input.length c1) (.slice a2 m.layers.length c2) 36
  clear h1 h2 hr hs
  go_enter Try.func5, Try.ntmps5
  go_upto_region 1 with fail
  generalize w.alloc (.cells #[.slice a1 m.input.length c1, .slice a2 m.layers.length c2] 36) = W at *
  have HB := Lib.hid hbA
  have HX := Lib.hid hx
  clear hbA hx
  go_wp2_with fail
  refine (awake13 W).mono ?_
  rintro e w1 ⟨rfl, hb1⟩
  have HB1 := Lib.hid (HB.out.trans (hb1.mono HB.out.size))
  have HX1 := Lib.hid (HX.out.below hb1)
  obtain ⟨x0, x1, xf, xlt⟩ := HX1.out
  have HF := Lib.hid (kFair c1 c2 (H1.out.below HB1.out) (H2.out.below HB1.out))
  clear hb1 HX
  cases hf : fairL m with
  | false =>
    rw [hf] at HF
    clear hf
    go_wp2_with fail
    refine HF.out.mono ?_
    rintro e w2 ⟨rfl, hb2⟩
    have HB2 := Lib.hid (HB1.out.trans (hb2.mono HB1.out.size))
    clear hb2 x0 x1 xf xlt
    go_wp2_with fail
    refine (awake13 w2).mono ?_
    rintro e w3 ⟨rfl, hb3⟩
    have HB3 := Lib.hid (HB2.out.trans (hb3.mono HB2.out.size))
    clear hb3
    go_wp2
    go_ret
    exact ⟨rfl, HB3.out⟩
  | true =>
    rw [hf] at HF
    clear hf
    by_cases g1 : z < 0
    · go_wp2_with fail
      refine HF.out.mono ?_
      rintro e w2 ⟨rfl, hb2⟩
      have HB2 := Lib.hid (HB1.out.trans (hb2.mono HB1.out.size))
      have HX2 := Lib.hid (HX1.out.below hb2)
      clear hb2 x0 x1 xf xlt
      obtain ⟨x0, x1, xf, xlt⟩ := HX2.out
      go_wp2_with fail
      refine (awake13 w2).mono ?_
      rintro e w3 ⟨rfl, hb3⟩
      have HB3 := Lib.hid (HB2.out.trans (hb3.mono HB2.out.size))
      clear hb3 x0 x1 xf xlt
      go_wp2
      go_ret
      exact ⟨rfl, HB3.out⟩
    · by_cases g2 : (m.layers.length : Int) < z
      · go_wp2_with fail
        refine HF.out.mono ?_
        rintro e w2 ⟨rfl, hb2⟩
        have HB2 := Lib.hid (HB1.out.trans (hb2.mono HB1.out.size))
        have HX2 := Lib.hid (HX1.out.below hb2)
        clear hb2 x0 x1 xf xlt
        obtain ⟨x0, x1, xf, xlt⟩ := HX2.out
        go_wp2_with fail
        refine (awake13 w2).mono ?_
        rintro e w3 ⟨rfl, hb3⟩
        have HB3 := Lib.hid (HB2.out.trans (hb3.mono HB2.out.size))
        clear hb3 x0 x1 xf xlt
        go_wp2
        go_ret
        exact ⟨rfl, HB3.out⟩
      · obtain ⟨n, rfl, hn⟩ : ∃ n : Nat, z = (n : Int) ∧ n ≤ m.layers.length := ⟨z.toNat, by omega, by omega⟩
        go_wp2_with fail
        refine HF.out.mono ?_
        rintro e w2 ⟨rfl, hb2⟩
        have HB2 := Lib.hid (HB1.out.trans (hb2.mono HB1.out.size))
        have HX2 := Lib.hid (HX1.out.below hb2)
        clear hb2 x0 x1 xf xlt
        obtain ⟨x0, x1, xf, xlt⟩ := HX2.out
        rcases shapesL_cases m with ⟨hv, hP⟩ | ⟨hv, ⟨T, hch, hP⟩ | ⟨hP, hQ⟩⟩
        · have HO := Lib.hid (sOfC c1 c2 (H1.out.below HB2.out) (H2.out.below HB2.out) HRg.out HSh.out)
          rw [hP] at HO
          clear hv hP
          go_wp2_with fail
          refine HO.out.mono ?_
          rintro e w3 ⟨⟨a, c, rfl, hT, hTc⟩, hb3⟩
          have HB3 := Lib.hid (HB2.out.trans (hb3.mono HB2.out.size))
          clear hb3 hT hTc HO x0 x1 xf xlt
          simp only
          go_wp2
          go_ret
          exact ⟨rfl, HB3.out⟩
        · have ht := shapesL_take n (m := m) (by rw [hP])
          rw [hP] at ht
          simp only at ht
          have HTk := Lib.hid ht.1
          have hlk : (m.layers.take n).length = n := by rw [List.length_take]; omega
          have hTk : (T.take n).length = n := by rw [List.length_take, ht.2]; omega
          have HO : Hid (Calls Try.prog 19 #[.agg #[.slice a1 m.input.length c1, .slice a2 m.layers.length c2]] w2 fun e w' => (∃ a c, e = .returned (.tuple #[.slice a m.layers.length c, .int .i64 0, .int .i64 0]) ∧ Intss w' Any a T ∧ m.layers.length ≤ c) ∧ Below w2.heap.size w2 w') := by
            refine (sOfC c1 c2 (H1.out.below HB2.out) (H2.out.below HB2.out) HRg.out HSh.out).mono ?_
            rw [hP]
            rintro e w' ⟨⟨a, c, rfl, hT, hTc⟩, hb⟩
            exact ⟨⟨a, c, by simp only [ht.2], hT.mono (fun _ _ _ => trivial), by rw [← ht.2]; exact hTc⟩, hb⟩
          have HT2 := Lib.hid hTk
          have HLk := Lib.hid hlk
          clear hv hP hch ht hTk hlk
          go_wp2_with fail
          refine HO.out.mono ?_
          rintro e w3 ⟨⟨a, c, rfl, hT, hTc⟩, hb3⟩
          have HB3 := Lib.hid (HB2.out.trans (hb3.mono HB2.out.size))
          have HX3 := Lib.hid (HX2.out.below hb3)
          have HT := Lib.hid hT
          clear hb3 hT HO x0 x1 xf xlt
          have HO : Hid (∀ W, Below w3.heap.size w3 W → Calls Try.prog 19 #[.agg #[.slice a1 m.input.length c1, .slice a2 n c2]] W fun e w' => (∃ a c, e = .returned (.tuple #[.slice a n c, .int .i64 0, .int .i64 0]) ∧ Intss w' Any a (T.take n)) ∧ Below w3.heap.size w3 w') := by
            intro W hb
            have hbw := HB3.out.trans (hb.mono HB3.out.size)
            have h := sOfC (m := ⟨m.input, m.layers.take n⟩) c1 c2 (H1.out.below hbw) ((H2.out.below hbw).take n) (fun l hl => HRg.out l (List.mem_of_mem_take hl)) (fun l hl => HSh.out l (List.mem_of_mem_take hl))
            rw [HTk.out] at h
            simp only [HLk.out] at h
            refine h.mono ?_
            rintro e w' ⟨⟨a, c, rfl, hT, hTc⟩, hb2⟩
            exact ⟨⟨a, c, by simp only [HT2.out], hT.mono (fun _ _ _ => trivial)⟩, hb.trans (hb2.mono hb.size)⟩
          have xbl : Below w3.heap.size w3 w3.drew := (Below.refl _ _).drew
          obtain ⟨x0, x1, xf, xlt⟩ := HX3.out
          have hz1 : (0 : Int) ≤ (n : Int) := by omega
          have hz2 : (n : Int) ≤ (c2 : Int) := by omega
          go_upto_region 6 with fail
          clear x0 x1 xf xlt
          go_region_held3 (fun w' => w'.cell? ⟨w.heap.size, 0, none⟩ = some (.slice a1 m.input.length c1) ∧ w'.cell? ⟨w.heap.size, 1, none⟩ = some (.slice a2 m.layers.length c2))
            (first | exact S2_keep HX3.out (by assumption))
            (first
              | (go_at_call 19; refine (HO.out _ ?hb).mono ?_
                 case hb => assumption
                 rintro e w4 ⟨⟨a5, c5, rfl, hI5⟩, p3⟩))
          all_goals
          have hb4 : Below w3.heap.size w3 w4 := p3
          have HB4 := Lib.hid (HB3.out.trans (hb4.mono HB3.out.size))
          have HX4 := Lib.hid (HX3.out.below hb4)
          have HC := Lib.hid (rSame c5 c hI5 ((HT.out.below hb4).take n))
          rw [HT2.out, show sameS (T.take n) (T.take n) = true by unfold sameS; simp] at HC
          clear hb4 p3 hI5 HO xbl
          obtain ⟨x0, x1, xf, xlt⟩ := HX4.out
          have hz3 : (n : Int) ≤ (c : Int) := by omega
          go_wp2_with fail
          refine HC.out.mono ?_
          rintro e w5 ⟨rfl, hb5⟩
          have HB5 := Lib.hid (HB4.out.trans (hb5.mono HB4.out.size))
          clear hb5 x0 x1 xf xlt
          go_wp2
          go_ret
          exact ⟨rfl, HB5.out⟩
        · have HO := Lib.hid (sOfC c1 c2 (H1.out.below HB2.out) (H2.out.below HB2.out) HRg.out HSh.out)
          obtain ⟨P, hR⟩ : ∃ P, shapesL m = P := ⟨_, rfl⟩
          rw [hR] at HO hP hQ
          obtain ⟨T, i, er⟩ := P
          simp only at hP hQ
          subst hP hQ
          clear hv hR
          go_wp2_with fail
          refine HO.out.mono ?_
          rintro e w3 ⟨⟨a, c, rfl, hT, hTc⟩, hb3⟩
          have HB3 := Lib.hid (HB2.out.trans (hb3.mono HB2.out.size))
          clear hb3 hT hTc HO x0 x1 xf xlt
          simp only
          go_wp2
          go_ret
          exact ⟨rfl, HB3.out⟩

end Go.Proofs.Ythlmgejikbmmaaa

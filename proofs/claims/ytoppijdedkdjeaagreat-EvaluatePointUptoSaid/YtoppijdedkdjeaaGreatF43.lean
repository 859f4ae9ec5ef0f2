/-
  Contracts of the functions that the statement reaches: LwD, ModAp, LwF.
-/
import Derived.Test.YtoppijdedkdjeaaGreatF41
set_option linter.unusedVariables false
set_option linter.unusedSimpArgs false
set_option linter.constructorNameAsVariable false
set_option linter.deprecated false
set_option maxRecDepth 100000
set_option maxHeartbeats 3200000
namespace Go.Proofs.YtoppijdedkdjeaaGreat
open Go.RowKit
open Go.Lib (hid)
theorem evRunP {w : World} {m : ModL} {a1 a2 ax : Option Addr} {L : List RatL} (c1 c2 cx : Nat) (h1 : Ints w Any a1 m.input) (h2 : LaysAt w a2 m.layers) (hr : ∀ l ∈ m.layers, LayRange l) (hs : ∀ l ∈ m.layers, LayLe l)
  (hX : RatsAt w ax L) (hp : Paid m L) : Calls Tryz.prog 17 #[.agg #[.slice a1 m.input.length c1, .slice a2 m.layers.length c2], .slice ax L.length cx] w (RunPost w (runL m (L.map ratOf))) := by
 obtain ⟨D, hD, hB, hR⟩ := hp.room
 have hl := hp.lens
 have hX' := hX
 rw [hp.back] at hX'
 have hR' : RoomK ((12 - m.layers.length) + m.layers.length) D 18446744073709551616 := by rw [Nat.sub_add_cancel (by omega)]; exact hR
 have h := evRun (x := L.map ratOf) c1 c2 cx h1 h2 hr hs hX' hp.sm hB hD (by omega) (by omega) hR (by rw [List.length_map]; have := hp.xl; omega) (fun l hl => Nat.le_trans (trace_len hR' hB hD (by omega) hp.sm l hl) (by omega))
 rw [List.length_map] at h
 exact h
theorem rats2_alloc {w : World} {p q : RatL} {an ad bn bd : Option Addr} {cn cd dn dd : Nat} (b2 : p.num.length <= cn) (b3 : p.den.length <= cd) (b4 : U32s w an p.num) (b5 : U32s w ad p.den) (g2 : q.num.length <= dn) (g3 : q.den.length <= dd) (g4 : U32s w bn q.num) (g5 : U32s w bd q.den) (T : Nat) :
  RatsAt (w.alloc (.cells #[.bool p.neg, .slice an p.num.length cn, .slice ad p.den.length cd, .bool q.neg, .slice bn q.num.length dn, .slice bd q.den.length dd] T)) (some ⟨w.heap.size, 0, none⟩) [p, q] := by
 have hal : Below w.heap.size w (w.alloc (.cells #[.bool p.neg, .slice an p.num.length cn, .slice ad p.den.length cd, .bool q.neg, .slice bn q.num.length dn, .slice bd q.den.length dd] T)) := (Below.refl _ _).alloc (Nat.le_refl _) _
 refine ⟨by simp, .inr ⟨w.heap.size, 0, rfl, by simp, fun j x hj => ?_⟩⟩
 match j, hj with
 | 0, hj =>
  simp at hj
  subst hj
  exact ⟨an, ad, cn, cd, by rw [World.cell?_alloc_at _ _ _ _ rfl]; rfl, by rw [World.cell?_alloc_at _ _ _ _ rfl]; rfl, by rw [World.cell?_alloc_at _ _ _ _ rfl]; rfl, ⟨an, ad, cn, cd, rfl, b2, b3, b4.below hal, b5.below hal⟩⟩
 | 1, hj =>
  simp at hj
  subst hj
  exact ⟨bn, bd, dn, dd, by rw [World.cell?_alloc_at _ _ _ _ rfl]; rfl, by rw [World.cell?_alloc_at _ _ _ _ rfl]; rfl, by rw [World.cell?_alloc_at _ _ _ _ rfl]; rfl, ⟨bn, bd, dn, dd, rfl, g2, g3, g4.below hal, g5.below hal⟩⟩
theorem rats1_alloc {w : World} {p : RatL} {an ad : Option Addr} {cn cd : Nat} (b2 : p.num.length <= cn) (b3 : p.den.length <= cd) (b4 : U32s w an p.num) (b5 : U32s w ad p.den) (T : Nat) :
  RatsAt (w.alloc (.cells #[.bool p.neg, .slice an p.num.length cn, .slice ad p.den.length cd] T)) (some ⟨w.heap.size, 0, none⟩) [p] := by
 have hal : Below w.heap.size w (w.alloc (.cells #[.bool p.neg, .slice an p.num.length cn, .slice ad p.den.length cd] T)) := (Below.refl _ _).alloc (Nat.le_refl _) _
 refine ⟨by simp, .inr ⟨w.heap.size, 0, rfl, by simp, fun j x hj => ?_⟩⟩
 match j, hj with
 | 0, hj =>
  simp at hj
  subst hj
  exact ⟨an, ad, cn, cd, by rw [World.cell?_alloc_at _ _ _ _ rfl]; rfl, by rw [World.cell?_alloc_at _ _ _ _ rfl]; rfl, by rw [World.cell?_alloc_at _ _ _ _ rfl]; rfl, ⟨an, ad, cn, cd, rfl, b2, b3, b4.below hal, b5.below hal⟩⟩
theorem ex_mem {w w1 w2 : World} {p q : RatL} {an ad bn bd : Option Addr} {cn cd dn dd : Nat} (hp : p = ratL 1) (hq : q = ratL (-1)) (kb1 : Below (w.alloc (.cells #[.int .i64 2] 3)).heap.size (w.alloc (.cells #[.int .i64 2] 3)) w1) (kb2 : Below w1.heap.size w1 w2)
  (b2 : p.num.length <= cn) (b3 : p.den.length <= cd) (b4 : U32s w1 an p.num) (b5 : U32s w1 ad p.den) (g2 : q.num.length <= dn) (g3 : q.den.length <= dd) (g4 : U32s w2 bn q.num) (g5 : U32s w2 bd q.den) {A : World}
  (hA : A = ((((w2.alloc (.cells #[.bool p.neg, .slice an p.num.length cn, .slice ad p.den.length cd, .bool q.neg, .slice bn q.num.length dn, .slice bd q.den.length dd] 37)).alloc (zerO 37)).alloc
   (.cells #[.int .i64 1, .int .i64 0, .int .i64 1, .int .i64 0, .int .i64 0, .int .i64 0, .int .i64 0, .slice (some ⟨w2.heap.size, 0, none⟩) 2 2, .slice (some ⟨w2.heap.size + 1, 0, none⟩) 1 1, .int .i64 5, .int .i64 0, .int .i64 0, .int .i64 0, .int .i64 0, .int .i64 0, .int .i64 0, .slice none 0 0, .slice none 0 0] 42)).alloc
   (.cells #[.slice (some ⟨w.heap.size, 0, none⟩) 1 1, .slice (some ⟨w2.heap.size + 1 + 1, 0, none⟩) 2 2] 25))) :
  Ints A Any (some ⟨w.heap.size, 0, none⟩) [2] /\ LaysAt A (some ⟨w2.heap.size + 1 + 1, 0, none⟩) [exD, exR] /\ A.cell? ⟨w2.heap.size + 1 + 1 + 1, 0, none⟩ = some (.slice (some ⟨w.heap.size, 0, none⟩) 1 1) /\ A.cell? ⟨w2.heap.size + 1 + 1 + 1, 1, none⟩ = some (.slice (some ⟨w2.heap.size + 1 + 1, 0, none⟩) 2 2) /\
   w2.heap.size + 1 + 1 + 1 < A.heap.size /\ Below w.heap.size w A := by
 have hst := fun (W : World) (o : Obj) => (Below.refl W.heap.size W).alloc (Nat.le_refl _) o
 have hW := rats2_alloc b2 b3 (b4.below kb2) (b5.below kb2) g2 g3 g4 g5 37
 have m1 := hst w2 (.cells #[.bool p.neg, .slice an p.num.length cn, .slice ad p.den.length cd, .bool q.neg, .slice bn q.num.length dn, .slice bd q.den.length dd] 37)
 have s1 : (w2.alloc (.cells #[.bool p.neg, .slice an p.num.length cn, .slice ad p.den.length cd, .bool q.neg, .slice bn q.num.length dn, .slice bd q.den.length dd] 37)).heap.size = w2.heap.size + 1 := by simp
 generalize w2.alloc (.cells #[.bool p.neg, .slice an p.num.length cn, .slice ad p.den.length cd, .bool q.neg, .slice bn q.num.length dn, .slice bd q.den.length dd] 37) = A1 at *
 have hZ := rats1_alloc (w := A1) (p := ⟨false, [], []⟩) (an := none) (ad := none) (cn := 0) (cd := 0) (Nat.le_refl _) (Nat.le_refl _) (U32s.nil _ _) (U32s.nil _ _) 37
 have m2 := hst A1 (zerO 37)
 have s2 : (A1.alloc (zerO 37)).heap.size = w2.heap.size + 1 + 1 := by simp [s1]
 simp only [List.length_nil] at hZ
 generalize A1.alloc (zerO 37) = A2 at *
 have m3 := hst A2 (.cells #[.int .i64 1, .int .i64 0, .int .i64 1, .int .i64 0, .int .i64 0, .int .i64 0, .int .i64 0, .slice (some ⟨w2.heap.size, 0, none⟩) 2 2, .slice (some ⟨w2.heap.size + 1, 0, none⟩) 1 1, .int .i64 5, .int .i64 0, .int .i64 0, .int .i64 0, .int .i64 0, .int .i64 0, .int .i64 0, .slice none 0 0, .slice none 0 0] 42)
 have hc : ∀ i v, (#[.int .i64 1, .int .i64 0, .int .i64 1, .int .i64 0, .int .i64 0, .int .i64 0, .int .i64 0, .slice (some ⟨w2.heap.size, 0, none⟩) 2 2, .slice (some ⟨w2.heap.size + 1, 0, none⟩) 1 1, .int .i64 5, .int .i64 0, .int .i64 0, .int .i64 0, .int .i64 0, .int .i64 0, .int .i64 0, .slice none 0 0, .slice none 0 0] : Array Value)[i]? = some v ->
   (A2.alloc (.cells #[.int .i64 1, .int .i64 0, .int .i64 1, .int .i64 0, .int .i64 0, .int .i64 0, .int .i64 0, .slice (some ⟨w2.heap.size, 0, none⟩) 2 2, .slice (some ⟨w2.heap.size + 1, 0, none⟩) 1 1, .int .i64 5, .int .i64 0, .int .i64 0, .int .i64 0, .int .i64 0, .int .i64 0, .int .i64 0, .slice none 0 0, .slice none 0 0] 42)).cell? ⟨w2.heap.size + 1 + 1, i, none⟩ = some v := by
  intro i v h
  rw [World.cell?_alloc_at _ _ _ _ s2.symm]
  exact h
 have s3 : (A2.alloc (.cells #[.int .i64 1, .int .i64 0, .int .i64 1, .int .i64 0, .int .i64 0, .int .i64 0, .int .i64 0, .slice (some ⟨w2.heap.size, 0, none⟩) 2 2, .slice (some ⟨w2.heap.size + 1, 0, none⟩) 1 1, .int .i64 5, .int .i64 0, .int .i64 0, .int .i64 0, .int .i64 0, .int .i64 0, .int .i64 0, .slice none 0 0, .slice none 0 0] 42)).heap.size = w2.heap.size + 1 + 1 + 1 := by simp [s2]
 generalize A2.alloc (.cells #[.int .i64 1, .int .i64 0, .int .i64 1, .int .i64 0, .int .i64 0, .int .i64 0, .int .i64 0, .slice (some ⟨w2.heap.size, 0, none⟩) 2 2, .slice (some ⟨w2.heap.size + 1, 0, none⟩) 1 1, .int .i64 5, .int .i64 0, .int .i64 0, .int .i64 0, .int .i64 0, .int .i64 0, .int .i64 0, .slice none 0 0, .slice none 0 0] 42) = A3 at *
 have m4 := hst A3 (.cells #[.slice (some ⟨w.heap.size, 0, none⟩) 1 1, .slice (some ⟨w2.heap.size + 1 + 1, 0, none⟩) 2 2] 25)
 have hb2 := Box2.alloc A3 (.slice (some ⟨w.heap.size, 0, none⟩) 1 1) (.slice (some ⟨w2.heap.size + 1 + 1, 0, none⟩) 2 2) 25
 rw [<- hA] at m4 hb2
 rw [s3] at hb2
 have hi := ints1_of (x := 2) (by unfold I64; omega) (show (w.alloc (.cells #[.int .i64 2] 3)).cell? ⟨w.heap.size, 0, none⟩ = some (.int .i64 2) by rw [World.cell?_alloc_at _ _ _ _ rfl]; rfl) (by simp)
 have t1 := kb1.trans (kb2.mono kb1.size)
 have t2 := t1.trans (m1.mono t1.size)
 have t3 := t2.trans (m2.mono t2.size)
 have t4 := t3.trans (m3.mono t3.size)
 have t5 := t4.trans (m4.mono t4.size)
 have u0 := hst w (.cells #[.int .i64 2] 3)
 refine ⟨hi.below t5, ⟨by simp, .inr ⟨_, 0, rfl, by have := m4.size; omega, fun j x hj => ?_⟩⟩, hb2.c0, hb2.c1, hb2.lt, u0.trans (t5.mono u0.size)⟩
 have r34 : ∀ i v, A3.cell? ⟨w2.heap.size + 1 + 1, i, none⟩ = some v -> A.cell? ⟨w2.heap.size + 1 + 1, i, none⟩ = some v := fun i v h => (m4.cell (p := ⟨w2.heap.size + 1 + 1, i, none⟩) (by show w2.heap.size + 1 + 1 < A3.heap.size; omega)).trans h
 match j, hj with
 | 0, hj =>
  simp at hj
  subst hj
  refine ⟨some ⟨w2.heap.size, 0, none⟩, some ⟨w2.heap.size + 1, 0, none⟩, 2, 1, ⟨r34 _ _ (hc 0 _ rfl), r34 _ _ (hc 1 _ rfl), r34 _ _ (hc 2 _ rfl), r34 _ _ (hc 3 _ rfl), r34 _ _ (hc 4 _ rfl), r34 _ _ (hc 5 _ rfl), r34 _ _ (hc 6 _ rfl), r34 _ _ (hc 7 _ rfl), r34 _ _ (hc 8 _ rfl)⟩, ?_, ?_⟩
  ·show RatsAt _ _ [ratL 1, ratL (-1)]
   rw [<- hp, <- hq]
   exact ((hW.below m2).below m3).below m4
  ·show RatsAt _ _ [ratL 0]
   rw [ratL_zeroE]
   rw [s1] at hZ
   exact (hZ.below m3).below m4
 | 1, hj =>
  simp at hj
  subst hj
  exact ⟨none, none, 0, 0, ⟨r34 _ _ (hc 9 _ rfl), r34 _ _ (hc 10 _ rfl), r34 _ _ (hc 11 _ rfl), r34 _ _ (hc 12 _ rfl), r34 _ _ (hc 13 _ rfl), r34 _ _ (hc 14 _ rfl), r34 _ _ (hc 15 _ rfl), r34 _ _ (hc 16 _ rfl), r34 _ _ (hc 17 _ rfl)⟩, ⟨by simp [exR], .inl rfl⟩, ⟨by simp [exR], .inl rfl⟩⟩
def AwG (m : Value) (p q z : RatL) (i : Nat) (v : Value) (w : World) : Prop :=
 match i with
 | 0 => v = m
 | 1 => RatV w v p
 | 2 => RatV w v q
 | 3 => ∃ a, v = .slice a 2 2 /\ RatsAt w a [p, q]
 | 4 => ∃ a c, v = .tuple #[.slice a 1 c, .int .i64 0] /\ RatsAt w a [z]
 | 5 => ∃ a c, v = .tuple #[.slice a 1 c, .int .i64 0] /\ RatsAt w a [z]
 | 6 => ∃ a c, v = .slice a 1 c /\ RatsAt w a [z]
 | 7 => v = .int .i64 0
 | 8 => ∃ a c, v = .slice a 1 c /\ RatsAt w a [z]
 | 9 => v = .int .i64 0
 | _ => True
theorem AwG_below {m : Value} {p q z : RatL} {i : Nat} {v : Value} {w w' : World} (h : AwG m p q z i v w) (hb : Below w.heap.size w w') : AwG m p q z i v w' := by
 match i, h with
 | 0, h => exact h
 | 1, h => exact RatV.below h hb
 | 2, h => exact RatV.below h hb
 | 3, ⟨a, e, k⟩ => exact ⟨a, e, k.below hb⟩
 | 4, ⟨a, c, e, k⟩ => exact ⟨a, c, e, k.below hb⟩
 | 5, ⟨a, c, e, k⟩ => exact ⟨a, c, e, k.below hb⟩
 | 6, ⟨a, c, e, k⟩ => exact ⟨a, c, e, k.below hb⟩
 | 7, h => exact h
 | 8, ⟨a, c, e, k⟩ => exact ⟨a, c, e, k.below hb⟩
 | 9, h => exact h
 | _ + 10, _ => trivial
theorem awake14 (w : World) : Calls Tryz.prog 11 #[] w fun e w' => e = .returned (.bool true) /\ Below w.heap.size w w' := by
 have hOf1 : ∀ W, Calls Tryz.prog 35 #[.int .i64 1] W (RetR W (ratL 1)) := fun W => r3Of W 1 (by omega) (by omega)
 have hOfm : ∀ W, Calls Tryz.prog 35 #[.int .i64 (-1)] W (RetR W (ratL (-1))) := fun W => r3Of W (-1) (by omega) (by omega)
 have hOf3 : ∀ W, Calls Tryz.prog 35 #[.int .i64 3] W (RetR W (ratL 3)) := fun W => r3Of W 3 (by omega) (by omega)
 have hOf2 : ∀ W, Calls Tryz.prog 35 #[.int .i64 2] W (RetR W (ratL 2)) := fun W => r3Of W 2 (by omega) (by omega)
 go_enter Tryz.func11, Tryz.ntmps11
 go_wp2_with fail
 refine (hOf1 _).mono ?_
 rintro e w1 ⟨v1, rfl, kv1, kb1⟩
 go_wp2_with fail
 refine (hOfm _).mono ?_
 rintro e w2 ⟨v2, rfl, kv2, kb2⟩
 obtain ⟨p, hp⟩ : ∃ p, p = ratL 1 := ⟨_, rfl⟩
 obtain ⟨q, hq⟩ : ∃ q, q = ratL (-1) := ⟨_, rfl⟩
 rw [<- hp] at kv1
 rw [<- hq] at kv2
 obtain ⟨an, ad, cn, cd, rfl, b2, b3, b4, b5⟩ := kv1.ex
 obtain ⟨bn, bd, dn, dd, rfl, g2, g3, g4, g5⟩ := kv2.ex
 have hp1 := hid hp
 have hq1 := hid hq
 have HB1 := hid kb1
 have HB2 := hid kb2
 have HP4 := hid b4
 have HP5 := hid b5
 have HG4 := hid g4
 have HG5 := hid g5
 clear hp hq kv1 kv2 kb1 kb2 b4 b5 g4 g5
 go_upto_region 2 with fail
 generalize hAe : (((w2.alloc (.cells #[.bool p.neg, .slice an p.num.length cn, .slice ad p.den.length cd, .bool q.neg, .slice bn q.num.length dn, .slice bd q.den.length dd] 37)).alloc (zerO 37)).alloc
   (.cells #[.int .i64 1, .int .i64 0, .int .i64 1, .int .i64 0, .int .i64 0, .int .i64 0, .int .i64 0, .slice (some ⟨w2.heap.size, 0, none⟩) 2 2, .slice (some ⟨w2.heap.size + 1, 0, none⟩) 1 1, .int .i64 5, .int .i64 0, .int .i64 0, .int .i64 0, .int .i64 0, .int .i64 0, .int .i64 0, .slice none 0 0, .slice none 0 0] 42)).alloc
   (.cells #[.slice (some ⟨w.heap.size, 0, none⟩) 1 1, .slice (some ⟨w2.heap.size + 1 + 1, 0, none⟩) 2 2] 25) = W1
 obtain ⟨hi, hla, hc0, hc1, hlt, hbe⟩ := ex_mem hp1.out hq1.out HB1.out HB2.out b2 b3 HP4.out HP5.out g2 g3 HG4.out HG5.out hAe.symm
 obtain ⟨MV, hMV⟩ : ∃ MV, MV = Value.agg #[.slice (some ⟨w.heap.size, 0, none⟩) 1 1, .slice (some ⟨w2.heap.size + 1 + 1, 0, none⟩) 2 2] := ⟨_, rfl⟩
 have HI := hid hi
 have HLa := hid hla
 have HBe := hid hbe
 have hRun : ∀ (x : List Rat) (z : Rat), x.length = 2 -> Paid exM (x.map ratL) -> runL exM x = ([ratL z], 0) -> ∀ W a, Below W1.heap.size W1 W -> RatsAt W a (x.map ratL) -> Calls Tryz.prog 17 #[MV, .slice a 2 2] W (fun e w' => ∃ b c, e = .returned (.tuple #[.slice b 1 c, .int .i64 0]) /\ 1 <= c /\ RatsAt w' b [ratL z] /\ Below W.heap.size W w') := by
  intro x z hx hp hr W a hb hX
  have h := evRunP (m := exM) 1 2 2 (HI.out.below hb) (HLa.out.below hb) exM_range exM_le hX hp
  rw [List.length_map, hx] at h
  rw [hMV]
  refine h.mono ?_
  rintro e w' ⟨b, c, rfl, hc, hR, hbb⟩
  have e1 : (x.map ratL).map ratOf = x := by
   rw [List.map_map]
   have : (ratOf ∘ ratL) = id := by funext q; exact ratOf_ratL q
   rw [this, List.map_id]
  rw [e1, hr] at hc hR ⊢
  exact ⟨b, c, rfl, hc, hR, hbb⟩
 have s1 : smallR (ratL 1) = true := by rw [ratL_one]; rfl
 have s3 : smallR (ratL 3) = true := by rw [ratL_three]; rfl
 have hRun1 := hRun [1, 3] 0 rfl (fair_paid (exM_fair 1 3 s1 s3)) exM_run1
 have hRun2 := hRun [3, 1] 2 rfl (fair_paid (exM_fair 3 1 s3 s1)) exM_run2
 simp only [List.map_cons, List.map_nil] at hRun1 hRun2
 have HCe : Hid (∀ W, Below W1.heap.size W1 W -> W.cell? ⟨w2.heap.size + 1 + 1 + 1, 0, none⟩ = some (.slice (some ⟨w.heap.size, 0, none⟩) 1 1) /\ W.cell? ⟨w2.heap.size + 1 + 1 + 1, 1, none⟩ = some (.slice (some ⟨w2.heap.size + 1 + 1, 0, none⟩) 2 2)) := fun W hb => ⟨(hb.cell hlt).trans hc0, (hb.cell hlt).trans hc1⟩
 have HRun1 := hid hRun1
 have HRun2 := hid hRun2
 have HMV := hid hMV
 clear hi hla hc0 hc1 hbe hRun hRun1 hRun2 hAe HP4 HP5 HG4 HG5 HB1 HB2 s1 s3
 rw [<- hMV]
 clear hMV
 refine wp_region_slots_all (by kernel_rfl) (by kernel_rfl) (by kernel_rfl) (AllJ W1 (AwG MV (ratL 1) (ratL 3) (ratL 0))) (fun g => AllJ.start g) ?_ ?_
 ·intro ops
  simp only [ShowsJ]
  refine ⟨?_, ?_, ?_, ?_, ?_, ?_, ?_, ?_, ?_, ?_, trivial⟩
  all_goals (intro d g W hJ hd hW; obtain ⟨x0, x1⟩ := HCe.out W hJ.be; simp only [Waits, Region.binds, forall_const, Bool.false_eq_true, false_implies, and_true, true_and] at hW)
  ·simp [fillFrom, Act.put]
   have HJ := hid hJ
   clear hJ hd hW
   go_wp2
   first | exact ⟨_, rfl, HJ.out.here (fun i v w w' h hb => AwG_below h hb) HMV.out.symm⟩ | exact ⟨rfl, _, HJ.out.here (fun i v w w' h hb => AwG_below h hb) HMV.out.symm⟩ | exact HJ.out.here (fun i v w w' h hb => AwG_below h hb) HMV.out.symm
  ·simp [fillFrom, Act.put]
   have HJ := hid hJ
   clear hJ hd hW
   have HCt := hid (hOf1 W)
   go_wp2_with fail
   refine HCt.out.mono ?_
   rintro e w1 ⟨v1, rfl, kv, kb⟩
   have KB := hid kb
   have KV := hid kv
   clear kv
   clear kb HCt
   go_wp2
   first | exact ⟨_, rfl, HJ.out.step (fun i v w w' h hb => AwG_below h hb) KB.out KV.out⟩ | exact HJ.out.step (fun i v w w' h hb => AwG_below h hb) KB.out KV.out
  ·simp [fillFrom, Act.put]
   have HJ := hid hJ
   clear hJ hd hW
   have HCt := hid (hOf3 W)
   go_wp2_with fail
   refine HCt.out.mono ?_
   rintro e w1 ⟨v1, rfl, kv, kb⟩
   have KB := hid kb
   have KV := hid kv
   clear kv
   clear kb HCt
   go_wp2
   first | exact ⟨_, rfl, HJ.out.step (fun i v w w' h hb => AwG_below h hb) KB.out KV.out⟩ | exact HJ.out.step (fun i v w w' h hb => AwG_below h hb) KB.out KV.out
  ·have h1 : d 1 = true := by first | exact hW | exact hW.1 | exact hW.2 | exact hW.2.1 | exact hW.2.2 | exact hW.2.2.1 | exact hW.2.2.2 | exact hW.2.2.2.1 | exact hW.2.2.2.2
   have h2 : d 2 = true := by first | exact hW | exact hW.1 | exact hW.2 | exact hW.2.1 | exact hW.2.2 | exact hW.2.2.1 | exact hW.2.2.2 | exact hW.2.2.2.1 | exact hW.2.2.2.2
   have J1 := hJ.all 1 h1
   have J2 := hJ.all 2 h2
   simp only [AwG] at J1 J2
   simp [fillFrom, Act.put]
   generalize hg1 : g 1 = y1
   rw [hg1] at J1
   generalize hg2 : g 2 = y2
   rw [hg2] at J2
   obtain J1 := J1
   obtain J2 := J2
   have HJ := hid hJ
   clear hJ hd hW h1 h2
   obtain ⟨an, ad, cn, cd, rfl, b2, b3, b4, b5⟩ := J1.ex
   obtain ⟨bn, bd, dn, dd, rfl, k2, k3, k4, k5⟩ := J2.ex
   obtain ⟨p, hp⟩ : ∃ p, p = ratL 1 := ⟨_, rfl⟩
   obtain ⟨q, hq⟩ : ∃ q, q = ratL 3 := ⟨_, rfl⟩
   have HPQ := hid (And.intro hp hq)
   rw [<- hp] at b2 b3 b4 b5
   rw [<- hq] at k2 k3 k4 k5
   rw [<- hp, <- hq]
   rw [<- hp, <- hq] at HJ
   have hal : Below W.heap.size W (W.alloc (.cells #[.bool p.neg, .slice an p.num.length cn, .slice ad p.den.length cd, .bool q.neg, .slice bn q.num.length dn, .slice bd q.den.length dd] 37)) := (Below.refl _ _).alloc (Nat.le_refl _) _
   have HAl := hid hal
   have HR2 := hid (rats2_alloc b2 b3 b4 b5 k2 k3 k4 k5 37)
   clear b4 b5 k4 k5 J1 J2 hal hp hq
   go_wp2
   exact ⟨_, rfl, HJ.out.step (fun i v w w' h hb => AwG_below h hb) HAl.out ⟨_, rfl, HR2.out⟩⟩
  ·have h0 : d 0 = true := by first | exact hW | exact hW.1 | exact hW.2 | exact hW.2.1 | exact hW.2.2 | exact hW.2.2.1 | exact hW.2.2.2 | exact hW.2.2.2.1 | exact hW.2.2.2.2
   have h3 : d 3 = true := by first | exact hW | exact hW.1 | exact hW.2 | exact hW.2.1 | exact hW.2.2 | exact hW.2.2.1 | exact hW.2.2.2 | exact hW.2.2.2.1 | exact hW.2.2.2.2
   have J0 := hJ.all 0 h0
   have J3 := hJ.all 3 h3
   simp only [AwG] at J0 J3
   simp [fillFrom, Act.put]
   generalize hg0 : g 0 = y0
   rw [hg0] at J0
   generalize hg3 : g 3 = y3
   rw [hg3] at J3
   obtain rfl := J0
   obtain ⟨a, rfl, H3⟩ := J3
   have HJ := hid hJ
   clear hJ hd hW h0 h3
   have HCt := hid (HRun1.out W a HJ.out.be H3)
   go_wp2_with fail
   refine HCt.out.mono ?_
   rintro e w1 ⟨b, c, rfl, hc, hRR, kb⟩
   have KB := hid kb
   have KV := hid hRR
   clear hRR hc H3
   clear kb HCt
   go_wp2
   first | exact ⟨_, rfl, HJ.out.step (fun i v w w' h hb => AwG_below h hb) KB.out ⟨_, _, rfl, KV.out⟩⟩ | exact HJ.out.step (fun i v w w' h hb => AwG_below h hb) KB.out ⟨_, _, rfl, KV.out⟩
  ·have h4 : d 4 = true := by first | exact hW | exact hW.1 | exact hW.2 | exact hW.2.1 | exact hW.2.2 | exact hW.2.2.1 | exact hW.2.2.2 | exact hW.2.2.2.1 | exact hW.2.2.2.2
   have J4 := hJ.all 4 h4
   simp only [AwG] at J4
   simp [fillFrom, Act.put]
   generalize hg4 : g 4 = y4
   rw [hg4] at J4
   obtain ⟨b, c, rfl, H4⟩ := J4
   have HJ := hid hJ
   clear hJ hd hW h4
   have K := hid H4
   clear H4
   go_wp2
   first | exact ⟨_, rfl, HJ.out.here (fun i v w w' h hb => AwG_below h hb) ⟨_, _, rfl, K.out⟩⟩ | exact ⟨rfl, _, HJ.out.here (fun i v w w' h hb => AwG_below h hb) ⟨_, _, rfl, K.out⟩⟩ | exact HJ.out.here (fun i v w w' h hb => AwG_below h hb) ⟨_, _, rfl, K.out⟩
  ·have h5 : d 5 = true := by first | exact hW | exact hW.1 | exact hW.2 | exact hW.2.1 | exact hW.2.2 | exact hW.2.2.1 | exact hW.2.2.2 | exact hW.2.2.2.1 | exact hW.2.2.2.2
   have J5 := hJ.all 5 h5
   simp only [AwG] at J5
   simp [fillFrom, Act.put]
   generalize hg5 : g 5 = y5
   rw [hg5] at J5
   obtain ⟨b, c, rfl, H4⟩ := J5
   have HJ := hid hJ
   clear hJ hd hW h5
   have K := hid H4
   clear H4
   go_wp2
   first | exact ⟨_, rfl, HJ.out.here (fun i v w w' h hb => AwG_below h hb) ⟨_, _, rfl, K.out⟩⟩ | exact ⟨rfl, _, HJ.out.here (fun i v w w' h hb => AwG_below h hb) ⟨_, _, rfl, K.out⟩⟩ | exact HJ.out.here (fun i v w w' h hb => AwG_below h hb) ⟨_, _, rfl, K.out⟩
  ·have h5 : d 5 = true := by first | exact hW | exact hW.1 | exact hW.2 | exact hW.2.1 | exact hW.2.2 | exact hW.2.2.1 | exact hW.2.2.2 | exact hW.2.2.2.1 | exact hW.2.2.2.2
   have J5 := hJ.all 5 h5
   simp only [AwG] at J5
   simp [fillFrom, Act.put]
   generalize hg5 : g 5 = y5
   rw [hg5] at J5
   obtain ⟨b, c, rfl, H4⟩ := J5
   have HJ := hid hJ
   clear hJ hd hW h5
   clear H4
   go_wp2
   first | exact ⟨_, rfl, HJ.out.here (fun i v w w' h hb => AwG_below h hb) rfl⟩ | exact ⟨rfl, _, HJ.out.here (fun i v w w' h hb => AwG_below h hb) rfl⟩ | exact HJ.out.here (fun i v w w' h hb => AwG_below h hb) rfl
  ·have h6 : d 6 = true := by first | exact hW | exact hW.1 | exact hW.2 | exact hW.2.1 | exact hW.2.2 | exact hW.2.2.1 | exact hW.2.2.2 | exact hW.2.2.2.1 | exact hW.2.2.2.2
   have J6 := hJ.all 6 h6
   simp only [AwG] at J6
   simp [fillFrom, Act.put]
   generalize hg6 : g 6 = y6
   rw [hg6] at J6
   obtain ⟨b, c, rfl, H4⟩ := J6
   have HJ := hid hJ
   clear hJ hd hW h6
   have K := hid H4
   clear H4
   go_wp2
   first | exact ⟨_, rfl, HJ.out.here (fun i v w w' h hb => AwG_below h hb) ⟨_, _, rfl, K.out⟩⟩ | exact ⟨rfl, _, HJ.out.here (fun i v w w' h hb => AwG_below h hb) ⟨_, _, rfl, K.out⟩⟩ | exact HJ.out.here (fun i v w w' h hb => AwG_below h hb) ⟨_, _, rfl, K.out⟩
  ·have h7 : d 7 = true := by first | exact hW | exact hW.1 | exact hW.2 | exact hW.2.1 | exact hW.2.2 | exact hW.2.2.1 | exact hW.2.2.2 | exact hW.2.2.2.1 | exact hW.2.2.2.2
   have J7 := hJ.all 7 h7
   simp only [AwG] at J7
   simp [fillFrom, Act.put]
   generalize hg7 : g 7 = y7
   rw [hg7] at J7
   obtain rfl := J7
   have HJ := hid hJ
   clear hJ hd hW h7
   go_wp2
   first | exact ⟨_, rfl, HJ.out.here (fun i v w w' h hb => AwG_below h hb) rfl⟩ | exact ⟨rfl, _, HJ.out.here (fun i v w w' h hb => AwG_below h hb) rfl⟩ | exact HJ.out.here (fun i v w w' h hb => AwG_below h hb) rfl
 ·intro d g W hA hJ
  have J8 := hJ.all 8 (hA 8 (by decide))
  have J9 := hJ.all 9 (hA 9 (by decide))
  simp only [AwG] at J8 J9
  simp [fillFrom, Act.put]
  generalize hg8 : g 8 = y8
  rw [hg8] at J8
  generalize hg9 : g 9 = y9
  rw [hg9] at J9
  obtain rfl := J9
  obtain ⟨a2, c2, rfl, J8⟩ := J8
  have HVa := hid J8
  have HRa := hid hJ.be
  clear hJ J8 hA hg8 hg9
  obtain ⟨W2, hW2⟩ : ∃ W2 : World, W2 = W := ⟨_, rfl⟩
  subst hW2
  go_upto_region 3 with fail
  have HCf : Hid (∀ W, Below W2.heap.size W2 W -> W.cell? ⟨w2.heap.size + 1 + 1 + 1, 0, none⟩ = some (.slice (some ⟨w.heap.size, 0, none⟩) 1 1) /\ W.cell? ⟨w2.heap.size + 1 + 1 + 1, 1, none⟩ = some (.slice (some ⟨w2.heap.size + 1 + 1, 0, none⟩) 2 2)) := fun W hb => HCe.out W (HRa.out.trans (hb.mono HRa.out.size))
  have HRun2 := hid (fun W a (hb : Below W2.heap.size W2 W) h => HRun2.out W a (HRa.out.trans (hb.mono HRa.out.size)) h)
  refine wp_region_slots_all (by kernel_rfl) (by kernel_rfl) (by kernel_rfl) (AllJ W2 (AwG MV (ratL 3) (ratL 1) (ratL 2))) (fun g => AllJ.start g) ?_ ?_
  ·intro ops
   simp only [ShowsJ]
   refine ⟨?_, ?_, ?_, ?_, ?_, ?_, ?_, ?_, ?_, ?_, trivial⟩
   all_goals (intro d g W hJ hd hW; obtain ⟨x0, x1⟩ := HCf.out W hJ.be; simp only [Waits, Region.binds, forall_const, Bool.false_eq_true, false_implies, and_true, true_and] at hW)
   ·simp [fillFrom, Act.put]
    have HJ := hid hJ
    clear hJ hd hW
    go_wp2
    first | exact ⟨_, rfl, HJ.out.here (fun i v w w' h hb => AwG_below h hb) HMV.out.symm⟩ | exact ⟨rfl, _, HJ.out.here (fun i v w w' h hb => AwG_below h hb) HMV.out.symm⟩ | exact HJ.out.here (fun i v w w' h hb => AwG_below h hb) HMV.out.symm
   ·simp [fillFrom, Act.put]
    have HJ := hid hJ
    clear hJ hd hW
    have HCt := hid (hOf3 W)
    go_wp2_with fail
    refine HCt.out.mono ?_
    rintro e w1 ⟨v1, rfl, kv, kb⟩
    have KB := hid kb
    have KV := hid kv
    clear kv
    clear kb HCt
    go_wp2
    first | exact ⟨_, rfl, HJ.out.step (fun i v w w' h hb => AwG_below h hb) KB.out KV.out⟩ | exact HJ.out.step (fun i v w w' h hb => AwG_below h hb) KB.out KV.out
   ·simp [fillFrom, Act.put]
    have HJ := hid hJ
    clear hJ hd hW
    have HCt := hid (hOf1 W)
    go_wp2_with fail
    refine HCt.out.mono ?_
    rintro e w1 ⟨v1, rfl, kv, kb⟩
    have KB := hid kb
    have KV := hid kv
    clear kv
    clear kb HCt
    go_wp2
    first | exact ⟨_, rfl, HJ.out.step (fun i v w w' h hb => AwG_below h hb) KB.out KV.out⟩ | exact HJ.out.step (fun i v w w' h hb => AwG_below h hb) KB.out KV.out
   ·have h1 : d 1 = true := by first | exact hW | exact hW.1 | exact hW.2 | exact hW.2.1 | exact hW.2.2 | exact hW.2.2.1 | exact hW.2.2.2 | exact hW.2.2.2.1 | exact hW.2.2.2.2
    have h2 : d 2 = true := by first | exact hW | exact hW.1 | exact hW.2 | exact hW.2.1 | exact hW.2.2 | exact hW.2.2.1 | exact hW.2.2.2 | exact hW.2.2.2.1 | exact hW.2.2.2.2
    have J1 := hJ.all 1 h1
    have J2 := hJ.all 2 h2
    simp only [AwG] at J1 J2
    simp [fillFrom, Act.put]
    generalize hg1 : g 1 = y1
    rw [hg1] at J1
    generalize hg2 : g 2 = y2
    rw [hg2] at J2
    obtain J1 := J1
    obtain J2 := J2
    have HJ := hid hJ
    clear hJ hd hW h1 h2
    obtain ⟨an, ad, cn, cd, rfl, b2, b3, b4, b5⟩ := J1.ex
    obtain ⟨bn, bd, dn, dd, rfl, k2, k3, k4, k5⟩ := J2.ex
    obtain ⟨p, hp⟩ : ∃ p, p = ratL 3 := ⟨_, rfl⟩
    obtain ⟨q, hq⟩ : ∃ q, q = ratL 1 := ⟨_, rfl⟩
    have HPQ := hid (And.intro hp hq)
    rw [<- hp] at b2 b3 b4 b5
    rw [<- hq] at k2 k3 k4 k5
    rw [<- hp, <- hq]
    rw [<- hp, <- hq] at HJ
    have hal : Below W.heap.size W (W.alloc (.cells #[.bool p.neg, .slice an p.num.length cn, .slice ad p.den.length cd, .bool q.neg, .slice bn q.num.length dn, .slice bd q.den.length dd] 37)) := (Below.refl _ _).alloc (Nat.le_refl _) _
    have HAl := hid hal
    have HR2 := hid (rats2_alloc b2 b3 b4 b5 k2 k3 k4 k5 37)
    clear b4 b5 k4 k5 J1 J2 hal hp hq
    go_wp2
    exact ⟨_, rfl, HJ.out.step (fun i v w w' h hb => AwG_below h hb) HAl.out ⟨_, rfl, HR2.out⟩⟩
   ·have h0 : d 0 = true := by first | exact hW | exact hW.1 | exact hW.2 | exact hW.2.1 | exact hW.2.2 | exact hW.2.2.1 | exact hW.2.2.2 | exact hW.2.2.2.1 | exact hW.2.2.2.2
    have h3 : d 3 = true := by first | exact hW | exact hW.1 | exact hW.2 | exact hW.2.1 | exact hW.2.2 | exact hW.2.2.1 | exact hW.2.2.2 | exact hW.2.2.2.1 | exact hW.2.2.2.2
    have J0 := hJ.all 0 h0
    have J3 := hJ.all 3 h3
    simp only [AwG] at J0 J3
    simp [fillFrom, Act.put]
    generalize hg0 : g 0 = y0
    rw [hg0] at J0
    generalize hg3 : g 3 = y3
    rw [hg3] at J3
    obtain rfl := J0
    obtain ⟨a, rfl, H3⟩ := J3
    have HJ := hid hJ
    clear hJ hd hW h0 h3
    have HCt := hid (HRun2.out W a HJ.out.be H3)
    go_wp2_with fail
    refine HCt.out.mono ?_
    rintro e w1 ⟨b, c, rfl, hc, hRR, kb⟩
    have KB := hid kb
    have KV := hid hRR
    clear hRR hc H3
    clear kb HCt
    go_wp2
    first | exact ⟨_, rfl, HJ.out.step (fun i v w w' h hb => AwG_below h hb) KB.out ⟨_, _, rfl, KV.out⟩⟩ | exact HJ.out.step (fun i v w w' h hb => AwG_below h hb) KB.out ⟨_, _, rfl, KV.out⟩
   ·have h4 : d 4 = true := by first | exact hW | exact hW.1 | exact hW.2 | exact hW.2.1 | exact hW.2.2 | exact hW.2.2.1 | exact hW.2.2.2 | exact hW.2.2.2.1 | exact hW.2.2.2.2
    have J4 := hJ.all 4 h4
    simp only [AwG] at J4
    simp [fillFrom, Act.put]
    generalize hg4 : g 4 = y4
    rw [hg4] at J4
    obtain ⟨b, c, rfl, H4⟩ := J4
    have HJ := hid hJ
    clear hJ hd hW h4
    have K := hid H4
    clear H4
    go_wp2
    first | exact ⟨_, rfl, HJ.out.here (fun i v w w' h hb => AwG_below h hb) ⟨_, _, rfl, K.out⟩⟩ | exact ⟨rfl, _, HJ.out.here (fun i v w w' h hb => AwG_below h hb) ⟨_, _, rfl, K.out⟩⟩ | exact HJ.out.here (fun i v w w' h hb => AwG_below h hb) ⟨_, _, rfl, K.out⟩
   ·have h5 : d 5 = true := by first | exact hW | exact hW.1 | exact hW.2 | exact hW.2.1 | exact hW.2.2 | exact hW.2.2.1 | exact hW.2.2.2 | exact hW.2.2.2.1 | exact hW.2.2.2.2
    have J5 := hJ.all 5 h5
    simp only [AwG] at J5
    simp [fillFrom, Act.put]
    generalize hg5 : g 5 = y5
    rw [hg5] at J5
    obtain ⟨b, c, rfl, H4⟩ := J5
    have HJ := hid hJ
    clear hJ hd hW h5
    have K := hid H4
    clear H4
    go_wp2
    first | exact ⟨_, rfl, HJ.out.here (fun i v w w' h hb => AwG_below h hb) ⟨_, _, rfl, K.out⟩⟩ | exact ⟨rfl, _, HJ.out.here (fun i v w w' h hb => AwG_below h hb) ⟨_, _, rfl, K.out⟩⟩ | exact HJ.out.here (fun i v w w' h hb => AwG_below h hb) ⟨_, _, rfl, K.out⟩
   ·have h5 : d 5 = true := by first | exact hW | exact hW.1 | exact hW.2 | exact hW.2.1 | exact hW.2.2 | exact hW.2.2.1 | exact hW.2.2.2 | exact hW.2.2.2.1 | exact hW.2.2.2.2
    have J5 := hJ.all 5 h5
    simp only [AwG] at J5
    simp [fillFrom, Act.put]
    generalize hg5 : g 5 = y5
    rw [hg5] at J5
    obtain ⟨b, c, rfl, H4⟩ := J5
    have HJ := hid hJ
    clear hJ hd hW h5
    clear H4
    go_wp2
    first | exact ⟨_, rfl, HJ.out.here (fun i v w w' h hb => AwG_below h hb) rfl⟩ | exact ⟨rfl, _, HJ.out.here (fun i v w w' h hb => AwG_below h hb) rfl⟩ | exact HJ.out.here (fun i v w w' h hb => AwG_below h hb) rfl
   ·have h6 : d 6 = true := by first | exact hW | exact hW.1 | exact hW.2 | exact hW.2.1 | exact hW.2.2 | exact hW.2.2.1 | exact hW.2.2.2 | exact hW.2.2.2.1 | exact hW.2.2.2.2
    have J6 := hJ.all 6 h6
    simp only [AwG] at J6
    simp [fillFrom, Act.put]
    generalize hg6 : g 6 = y6
    rw [hg6] at J6
    obtain ⟨b, c, rfl, H4⟩ := J6
    have HJ := hid hJ
    clear hJ hd hW h6
    have K := hid H4
    clear H4
    go_wp2
    first | exact ⟨_, rfl, HJ.out.here (fun i v w w' h hb => AwG_below h hb) ⟨_, _, rfl, K.out⟩⟩ | exact ⟨rfl, _, HJ.out.here (fun i v w w' h hb => AwG_below h hb) ⟨_, _, rfl, K.out⟩⟩ | exact HJ.out.here (fun i v w w' h hb => AwG_below h hb) ⟨_, _, rfl, K.out⟩
   ·have h7 : d 7 = true := by first | exact hW | exact hW.1 | exact hW.2 | exact hW.2.1 | exact hW.2.2 | exact hW.2.2.1 | exact hW.2.2.2 | exact hW.2.2.2.1 | exact hW.2.2.2.2
    have J7 := hJ.all 7 h7
    simp only [AwG] at J7
    simp [fillFrom, Act.put]
    generalize hg7 : g 7 = y7
    rw [hg7] at J7
    obtain rfl := J7
    have HJ := hid hJ
    clear hJ hd hW h7
    go_wp2
    first | exact ⟨_, rfl, HJ.out.here (fun i v w w' h hb => AwG_below h hb) rfl⟩ | exact ⟨rfl, _, HJ.out.here (fun i v w w' h hb => AwG_below h hb) rfl⟩ | exact HJ.out.here (fun i v w w' h hb => AwG_below h hb) rfl
  ·intro d g W hA hJ
   have J8 := hJ.all 8 (hA 8 (by decide))
   have J9 := hJ.all 9 (hA 9 (by decide))
   simp only [AwG] at J8 J9
   simp [fillFrom, Act.put]
   generalize hg8 : g 8 = y8
   rw [hg8] at J8
   generalize hg9 : g 9 = y9
   rw [hg9] at J9
   obtain rfl := J9
   obtain ⟨a4, c4, rfl, J8⟩ := J8
   have HVb := hid J8
   have HRb := hid hJ.be
   clear hJ J8 hA hg8 hg9
   obtain ⟨W3, hW3⟩ : ∃ W3 : World, W3 = W := ⟨_, rfl⟩
   subst hW3
   have hZ := rats1_alloc (w := W3) (p := ⟨false, [], []⟩) (an := none) (ad := none) (cn := 0) (cd := 0) (Nat.le_refl _) (Nat.le_refl _) (U32s.nil _ _) (U32s.nil _ _) 37
   simp only [List.length_nil] at hZ
   have hal : Below W3.heap.size W3 (W3.alloc (zerO 37)) := (Below.refl _ _).alloc (Nat.le_refl _) _
   have hy := (HVa.out.below HRb.out).below hal
   have hC := r12Rats c2 1 hy hZ
   rw [show decide ([ratL 0] = [(⟨false, [], []⟩ : RatL)]) = true from decide_eq_true (by rw [ratL_zeroE])] at hC
   have HC := hid hC
   have HB3 := hid (HBe.out.trans ((HRa.out.trans (HRb.out.mono HRa.out.size)).mono HBe.out.size))
   have HB4 := hid (HB3.out.trans (hal.mono HB3.out.size))
   have HVc := hid (HVb.out.below hal)
   clear hZ hal hy hC
   go_wp2_with fail
   refine HC.out.mono ?_
   rintro e w5 ⟨rfl, hb5⟩
   have HB5 := hid (HB4.out.trans (hb5.mono HB4.out.size))
   have HVd := hid (HVc.out.below hb5)
   clear hb5 HC
   go_wp2_with fail
   refine (hOf2 w5).mono ?_
   rintro e w6 ⟨v6, rfl, kv, kb⟩
   obtain ⟨r, hr⟩ : ∃ r, r = ratL 2 := ⟨_, rfl⟩
   have hVe := HVd.out.below kb
   rw [<- hr] at kv hVe
   obtain ⟨an, ad, cn, cd, rfl, j2, j3, j4, j5⟩ := kv.ex
   have hZ := rats1_alloc j2 j3 j4 j5 37
   have hal : Below w6.heap.size w6 (w6.alloc (ratO r an cn ad cd 37)) := (Below.refl _ _).alloc (Nat.le_refl _) _
   have hC := r12Rats c4 1 (hVe.below hal) hZ
   rw [show decide ([r] = [r]) = true from decide_eq_true rfl] at hC
   have HC := hid hC
   have HB6 := hid ((HB5.out.trans (kb.mono HB5.out.size)).trans (hal.mono (HB5.out.trans (kb.mono HB5.out.size)).size))
   clear kv kb hVe j4 j5 hZ hal hC hr
   go_wp2_with fail
   refine HC.out.mono ?_
   rintro e w7 ⟨rfl, hb7⟩
   have HB7 := hid (HB6.out.trans (hb7.mono HB6.out.size))
   clear hb7 HC
   go_wp2
   go_ret
   exact ⟨rfl, HB7.out⟩
theorem flat9_inv : ∀ {CL : List (List Value)} {k : Nat} {u : Value}, (∀ c ∈ CL, c.length = 9) -> CL.flatten[k]? = some u -> ∃ c, CL[k / 9]? = some c /\ c[k % 9]? = some u := by
 intro CL
 induction CL with
 | nil => intro k u _ h; simp at h
 | cons d r ih =>
  intro k u h9 h
  have hd := h9 d (by simp)
  rw [List.flatten_cons] at h
  by_cases hk : k < 9
  ·rw [List.getElem?_append_left (by omega)] at h
   exact ⟨d, by rw [Nat.div_eq_of_lt hk]; rfl, by rw [Nat.mod_eq_of_lt hk]; exact h⟩
  ·rw [List.getElem?_append_right (by omega), hd] at h
   obtain ⟨c, e1, e2⟩ := ih (fun c hc => h9 c (by simp [hc])) h
   refine ⟨c, ?_, ?_⟩
   ·rw [show k / 9 = (k - 9) / 9 + 1 by omega]; simpa using e1
   ·rw [show k % 9 = (k - 9) % 9 by omega]; exact e2
structure Lays9 (w : World) (CL : List (List Value)) (L : List LayL) : Prop where
 len : CL.length = L.length
 nine : ∀ c ∈ CL, c.length = 9
 row : ∀ (j : Nat) (c : List Value) (l : LayL), CL[j]? = some c -> L[j]? = some l -> ∃ a1 a2 c1 c2, c = layC l a1 a2 c1 c2 /\ RatsAt w a1 l.weights /\ RatsAt w a2 l.bias
theorem LaysAt.src {w : World} {a : Option Addr} {L : List LayL} (h : LaysAt w a L) : ∃ CL, Lays9 w CL L /\ SrcOK w a L.length 9 CL.flatten := by
 rcases h.row with rfl | ⟨b, off, rfl, hb, hc⟩
 ·exact ⟨[], ⟨rfl, by simp, by simp⟩, ⟨by simp, by simp, by simp⟩⟩
 ·have hcell : ∀ j, ∃ c : List Value, ∀ l, L[j]? = some l -> ∃ a1 a2 c1 c2, c = layC l a1 a2 c1 c2 /\ RatsAt w a1 l.weights /\ RatsAt w a2 l.bias /\ ∀ (i : Nat) (u : Value), c[i]? = some u -> w.cell? ⟨b, off + j * 9 + i, none⟩ = some u := by
   intro j
   cases hj : L[j]? with
   | none => exact ⟨[], fun l h => by cases h⟩
   | some l =>
    obtain ⟨a1, a2, c1, c2, ⟨h0, h1, h2, h3, h4, h5, h6, h7, h8⟩, k1, k2⟩ := hc j l hj
    refine ⟨layC l a1 a2 c1 c2, fun l' h => ?_⟩
    cases h
    refine ⟨a1, a2, c1, c2, rfl, k1, k2, fun i u hu => ?_⟩
    have hi : i < 9 := by have := (List.getElem?_eq_some_iff.1 hu).1; rw [layC_len] at this; exact this
    have : i = 0 ∨ i = 1 ∨ i = 2 ∨ i = 3 ∨ i = 4 ∨ i = 5 ∨ i = 6 ∨ i = 7 ∨ i = 8 := by omega
    rcases this with rfl | rfl | rfl | rfl | rfl | rfl | rfl | rfl | rfl <;> (cases hu; assumption)
  have hex : ∃ f : Nat -> List Value, ∀ j l, L[j]? = some l -> ∃ a1 a2 c1 c2, f j = layC l a1 a2 c1 c2 /\ RatsAt w a1 l.weights /\ RatsAt w a2 l.bias /\ ∀ (i : Nat) (u : Value), (f j)[i]? = some u -> w.cell? ⟨b, off + j * 9 + i, none⟩ = some u :=
   ⟨fun j => (hcell j).choose, fun j => (hcell j).choose_spec⟩
  obtain ⟨f, hf⟩ := hex
  have hget : ∀ j c, ((List.range L.length).map f)[j]? = some c -> j < L.length /\ c = f j := by
   intro j c hj
   have hlt := (List.getElem?_eq_some_iff.1 hj).1
   simp at hlt
   rw [List.getElem?_map, List.getElem?_range hlt] at hj
   exact ⟨hlt, (Option.some.inj hj).symm⟩
  have h9 : ∀ c ∈ (List.range L.length).map f, c.length = 9 := by
   intro c hm
   obtain ⟨j, hj⟩ := List.getElem?_of_mem hm
   obtain ⟨hlt, rfl⟩ := hget j c hj
   obtain ⟨a1, a2, c1, c2, e, _⟩ := hf j L[j] (List.getElem?_eq_getElem hlt)
   rw [e]; rfl
  have hrow : Lays9 w ((List.range L.length).map f) L := by
   refine ⟨by simp, h9, fun j c l hj hl => ?_⟩
   obtain ⟨_, rfl⟩ := hget j c hj
   obtain ⟨a1, a2, c1, c2, e, r1, r2, _⟩ := hf j l hl
   exact ⟨a1, a2, c1, c2, e, r1, r2⟩
  refine ⟨_, hrow, ⟨?_, ?_, fun _ => ⟨b, off, rfl, hb, fun k u hk => ?_⟩⟩⟩
  ·have : ∀ (CL : List (List Value)), (∀ c ∈ CL, c.length = 9) -> CL.flatten.length = CL.length * 9 := by
    intro CL
    induction CL with
    | nil => intro _; rfl
    | cons d r ih => intro h; rw [List.flatten_cons, List.length_append, ih (fun c hc => h c (by simp [hc])), h d (by simp), List.length_cons]; omega
   rw [this _ h9]; simp
  ·intro u hu
   obtain ⟨c, hc1, hc2⟩ := List.mem_flatten.1 hu
   obtain ⟨j, hj⟩ := List.getElem?_of_mem hc1
   obtain ⟨hlt, rfl⟩ := hget j c hj
   obtain ⟨a1, a2, c1, c2, e, _⟩ := hf j L[j] (List.getElem?_eq_getElem hlt)
   rw [e] at hc2
   exact layC_one _ _ _ _ _ u hc2
  ·obtain ⟨c, e1, e2⟩ := flat9_inv h9 hk
   obtain ⟨hlt, rfl⟩ := hget _ c e1
   obtain ⟨_, _, _, _, _, _, _, hcl⟩ := hf (k / 9) L[k / 9] (List.getElem?_eq_getElem hlt)
   have := hcl _ u e2
   rw [show off + k / 9 * 9 + k % 9 = off + k by omega] at this
   exact this
theorem Lays9.append {w : World} {CL NL : List (List Value)} {L M : List LayL} (h : Lays9 w CL L) (g : Lays9 w NL M) : Lays9 w (CL ++ NL) (L ++ M) := by
 refine ⟨by rw [List.length_append, List.length_append, h.len, g.len], fun c hc => ?_, fun j c l hc hl => ?_⟩
 ·rcases List.mem_append.1 hc with k | k
  ·exact h.nine c k
  ·exact g.nine c k
 ·by_cases hj : j < L.length
  ·rw [List.getElem?_append_left (by rw [h.len]; exact hj)] at hc
   rw [List.getElem?_append_left hj] at hl
   exact h.row j c l hc hl
  ·rw [List.getElem?_append_right (by rw [h.len]; omega), h.len] at hc
   rw [List.getElem?_append_right (by omega)] at hl
   exact g.row _ c l hc hl
theorem Lays9.below {w w' : World} {CL : List (List Value)} {L : List LayL} (h : Lays9 w CL L) (hb : Below w.heap.size w w') : Lays9 w' CL L :=
 ⟨h.len, h.nine, fun j c l hc hl => by obtain ⟨a1, a2, c1, c2, e, r1, r2⟩ := h.row j c l hc hl; exact ⟨a1, a2, c1, c2, e, r1.below hb, r2.below hb⟩⟩
theorem LaysAt.set {w : World} {a : Option Addr} {L : List LayL} (h : LaysAt w a L) {g : Nat} (hne : ∀ b off, a = some ⟨b, off, none⟩ -> g ≠ b) (hg : AllB isZ w g) (i : Nat) (v : Value) : LaysAt (w.setCell ⟨g, i, none⟩ v) a L := by
 refine ⟨h.len, h.row.imp id ?_⟩
 rintro ⟨b, off, e, hs, hc⟩
 have hne := hne b off e
 refine ⟨b, off, e, by simpa using hs, fun j x hj => ?_⟩
 obtain ⟨a1, a2, c1, c2, ⟨l0, l1, l2, l3, l4, l5, l6, l7, l8⟩, r1, r2⟩ := hc j x hj
 exact ⟨a1, a2, c1, c2, ⟨(far2 hne).trans l0, (far2 hne).trans l1, (far2 hne).trans l2, (far2 hne).trans l3, (far2 hne).trans l4, (far2 hne).trans l5, (far2 hne).trans l6, (far2 hne).trans l7, (far2 hne).trans l8⟩, r1.set hg i v, r2.set hg i v⟩
structure WiJ (W1 : World) (V0 V1 V3 V4 V6 : Value) (n k : Nat) (C N : List Value) (d : Nat -> Bool) (g : Nat -> Value) (W : World) : Prop where
 bl : Below W1.heap.size W1 W
 v0 : d 0 = true -> g 0 = V0
 v1 : d 1 = true -> g 1 = V1
 v3 : d 3 = true -> g 3 = V3
 v4 : d 4 = true -> g 4 = V4
 v6 : d 6 = true -> g 6 = V6
 c2 : d 2 = true -> d 5 = false -> W.ownsRow W1.heap.size 42 9 (g 2) 0 []
 c5 : d 5 = true -> d 7 = false -> W.ownsRow W1.heap.size 42 9 (g 5) n C
 c7 : d 7 = true -> W.ownsRow W1.heap.size 42 9 (g 7) (n + k) (C ++ N)
 v8 : d 8 = true -> d 7 = true /\ ∃ u, g 8 = .agg #[V1, u] /\ g 7 = u
 e7 : d 7 = true -> d 5 = true
 e5 : d 5 = true -> d 2 = true
section
variable {W1 W : World} {V0 V1 V3 V4 V6 : Value} {n k : Nat} {C N : List Value} {d : Nat -> Bool} {g : Nat -> Value}
theorem WiJ.start (g : Nat -> Value) : WiJ W1 V0 V1 V3 V4 V6 n k C N (fun _ => false) g W1.drew :=
 ⟨(Below.refl _ _).drew, (fun h => by cases h), (fun h => by cases h), (fun h => by cases h), (fun h => by cases h), (fun h => by cases h), (fun h => by cases h), (fun h => by cases h), (fun h => by cases h), (fun h => by cases h), (fun h => by cases h), (fun h => by cases h)⟩
theorem WiJ.s0 (h : WiJ W1 V0 V1 V3 V4 V6 n k C N d g W) : WiJ W1 V0 V1 V3 V4 V6 n k C N (mark d 0) (upd g 0 V0) W := ⟨h.bl, fun _ => rfl, h.v1, h.v3, h.v4, h.v6, h.c2, h.c5, h.c7, h.v8, h.e7, h.e5⟩
theorem WiJ.s1 (h : WiJ W1 V0 V1 V3 V4 V6 n k C N d g W) : WiJ W1 V0 V1 V3 V4 V6 n k C N (mark d 1) (upd g 1 V1) W := ⟨h.bl, h.v0, fun _ => rfl, h.v3, h.v4, h.v6, h.c2, h.c5, h.c7, h.v8, h.e7, h.e5⟩
theorem WiJ.s3 (h : WiJ W1 V0 V1 V3 V4 V6 n k C N d g W) : WiJ W1 V0 V1 V3 V4 V6 n k C N (mark d 3) (upd g 3 V3) W := ⟨h.bl, h.v0, h.v1, fun _ => rfl, h.v4, h.v6, h.c2, h.c5, h.c7, h.v8, h.e7, h.e5⟩
theorem WiJ.s4 (h : WiJ W1 V0 V1 V3 V4 V6 n k C N d g W) : WiJ W1 V0 V1 V3 V4 V6 n k C N (mark d 4) (upd g 4 V4) W := ⟨h.bl, h.v0, h.v1, h.v3, fun _ => rfl, h.v6, h.c2, h.c5, h.c7, h.v8, h.e7, h.e5⟩
theorem WiJ.s6 (h : WiJ W1 V0 V1 V3 V4 V6 n k C N d g W) : WiJ W1 V0 V1 V3 V4 V6 n k C N (mark d 6) (upd g 6 V6) W := ⟨h.bl, h.v0, h.v1, h.v3, h.v4, fun _ => rfl, h.c2, h.c5, h.c7, h.v8, h.e7, h.e5⟩
theorem WiJ.s2 {v : Value} {W' : World} (h : WiJ W1 V0 V1 V3 V4 V6 n k C N d g W) (hd : d 2 = false) (hb : Below W.heap.size W W') (ho : W'.ownsRow W1.heap.size 42 9 v 0 []) : WiJ W1 V0 V1 V3 V4 V6 n k C N (mark d 2) (upd g 2 v) W' := by
 have h5 : d 5 = false := by cases e : d 5 with | false => rfl | true => rw [h.e5 e] at hd; cases hd
 have h7 : d 7 = false := by cases e : d 7 with | false => rfl | true => rw [h.e7 e] at h5; cases h5
 refine ⟨h.bl.trans (hb.mono h.bl.size), h.v0, h.v1, h.v3, h.v4, h.v6, fun _ _ => ho, fun e _ => ?_, fun e => ?_, h.v8, h.e7, fun _ => rfl⟩
 ·have : d 5 = true := e
  rw [h5] at this; cases this
 ·have : d 7 = true := e
  rw [h7] at this; cases this
theorem WiJ.s5 {v : Value} {W' : World} (h : WiJ W1 V0 V1 V3 V4 V6 n k C N d g W) (hd : d 5 = false) (h2 : d 2 = true) (hb : Below W1.heap.size W W') (ho : W'.ownsRow W1.heap.size 42 9 v n C) : WiJ W1 V0 V1 V3 V4 V6 n k C N (mark d 5) (upd g 5 v) W' := by
 have h7 : d 7 = false := by cases e : d 7 with | false => rfl | true => rw [h.e7 e] at hd; cases hd
 refine ⟨h.bl.trans hb, h.v0, h.v1, h.v3, h.v4, h.v6, fun _ e => (by cases e), fun _ _ => ho, fun e => ?_, h.v8, fun _ => rfl, fun _ => h2⟩
 have : d 7 = true := e
 rw [h7] at this; cases this
theorem WiJ.s7 {v : Value} {W' : World} (h : WiJ W1 V0 V1 V3 V4 V6 n k C N d g W) (hd : d 7 = false) (h5 : d 5 = true) (hb : Below W1.heap.size W W') (ho : W'.ownsRow W1.heap.size 42 9 v (n + k) (C ++ N)) : WiJ W1 V0 V1 V3 V4 V6 n k C N (mark d 7) (upd g 7 v) W' := by
 refine ⟨h.bl.trans hb, h.v0, h.v1, h.v3, h.v4, h.v6, fun _ e => ?_, fun _ e => (by cases e), fun _ => ho, fun e => ?_, fun _ => h5, h.e5⟩
 ·have : d 5 = false := e
  rw [h5] at this; cases this
 ·have h8 := (h.v8 e).1
  rw [hd] at h8; cases h8
theorem WiJ.s8 (h : WiJ W1 V0 V1 V3 V4 V6 n k C N d g W) (h7 : d 7 = true) : WiJ W1 V0 V1 V3 V4 V6 n k C N (mark d 8) (upd g 8 (.agg #[V1, g 7])) W :=
 ⟨h.bl, h.v0, h.v1, h.v3, h.v4, h.v6, h.c2, h.c5, h.c7, fun _ => ⟨h7, g 7, rfl, rfl⟩, h.e7, h.e5⟩
end
def WithPost (w : World) (a1 : Option Addr) (n c1 : Nat) (L : List LayL) (e : Ending) (w' : World) : Prop := ∃ a c, e = .returned (.agg #[.slice a1 n c1, .slice a L.length c]) /\ LaysAt w' a L /\ Below w.heap.size w w'
theorem kWith {w : World} {a1 a2 aN : Option Addr} {L M : List LayL} (nI c1 c2 cN : Nat) (h2 : LaysAt w a2 L) (hN : LaysAt w aN M) (hL : L.length <= 1000) (hM : M.length <= 1000) :
  Calls Tryz.prog 20 #[.agg #[.slice a1 nI c1, .slice a2 L.length c2], .slice aN M.length cN] w (WithPost w a1 nI c1 (L ++ M)) := by
 have hx0 := Box2.alloc w (.slice a1 nI c1) (.slice a2 L.length c2) 25
 have hb0 : Below w.heap.size w (w.alloc (.cells #[.slice a1 nI c1, .slice a2 L.length c2] 25)) := (Below.refl _ _).alloc (Nat.le_refl _) _
 have hs0 : (w.alloc (.cells #[.slice a1 nI c1, .slice a2 L.length c2] 25)).heap.size = w.heap.size + 1 := by simp
 have H2 := hid h2
 have HN := hid hN
 clear h2 hN
 go_enter Tryz.func20, Tryz.ntmps20
 go_upto_region 1 with fail
 generalize w.alloc (.cells #[.slice a1 nI c1, .slice a2 L.length c2] 25) = Wa at *
 have hx1 := Box2.alloc Wa (.slice none 0 0) (.slice none 0 0) 25
 have hb1 : Below Wa.heap.size Wa (Wa.alloc (.cells #[.slice none 0 0, .slice none 0 0] 25)) := (Below.refl _ _).alloc (Nat.le_refl _) _
 have hA := AllB.of_heap (p := isZ) (heap_alloc_new Wa (.cells #[.slice none 0 0, .slice none 0 0] 25)) (by intro u hu; simp at hu; rcases hu with rfl | rfl <;> rfl)
 rw [hs0] at hx1 hA
 have HX0 := hid (hx0.below hb1)
 have HBa := hid (hb0.trans (hb1.mono hb0.size))
 clear hx0 hb0 hs0 hb1
 obtain ⟨CL, hc1, hc2⟩ := (H2.out.below HBa.out).src
 obtain ⟨NL, hn1, hn2⟩ := (HN.out.below HBa.out).src
 generalize Wa.alloc (.cells #[.slice none 0 0, .slice none 0 0] 25) = W1 at *
 obtain ⟨C, hC⟩ : ∃ C, C = CL.flatten := ⟨_, rfl⟩
 obtain ⟨N, hN⟩ : ∃ N, N = NL.flatten := ⟨_, rfl⟩
 rw [<- hC] at hc2
 rw [<- hN] at hn2
 have HS1 := hid hc2
 have HS2 := hid hn2
 have HC1 := hid hc1
 have HN1 := hid hn1
 have HCe := hid (And.intro hC hN)
 have HR := hid hx1
 have HAb := hid hA
 clear hc1 hc2 hn1 hn2 hC hN hx1 hA
 refine wp_region_slots_gen 9 (by kernel_rfl) (by kernel_rfl) (by kernel_rfl) (by kernel_rfl) (by decide) (WiJ W1 (.pointer (some ⟨w.heap.size, 0, none⟩)) (.slice a1 nI c1) (.pointer (some ⟨w.heap.size, 1, none⟩)) (.slice a2 L.length c2) (.slice aN M.length cN) L.length M.length C N) (fun g => WiJ.start g) ?_ ?_
 ·intro ops
  simp only [List.take_succ_cons, List.take_zero, ShowsJ]
  refine ⟨?_, ?_, ?_, ?_, ?_, ?_, ?_, ?_, ?_, trivial⟩
  all_goals (intro d g W hJ hd hW; simp only [Waits, Region.binds, forall_const, Bool.false_eq_true, false_implies, and_true, true_and] at hW)
  ·obtain ⟨x0, x1, xf, xlt⟩ := HX0.out.below hJ.bl
   simp [fillFrom, Act.put]
   have HJ := hid hJ
   clear hJ hd hW
   go_wp2
   first | exact ⟨_, rfl, HJ.out.s0⟩ | exact HJ.out.s0
  ·have h0 : d 0 = true := by first | exact hW | exact hW.1 | exact hW.2 | exact hW.2.1 | exact hW.2.2 | exact hW.2.2.1 | exact hW.2.2.2
   obtain ⟨x0, x1, xf, xlt⟩ := HX0.out.below hJ.bl
   simp [fillFrom, Act.put]
   generalize hg0 : g 0 = y0
   obtain rfl := hg0.symm.trans (hJ.v0 h0)
   have HJ := hid hJ
   clear hJ hd hW
   go_wp2
   first | exact ⟨_, rfl, HJ.out.s1⟩ | exact HJ.out.s1
  ·obtain ⟨x0, x1, xf, xlt⟩ := HX0.out.below hJ.bl
   simp [fillFrom, Act.put]
   have HJ := hid hJ
   have HD := hid hd
   have hal : Below W.heap.size W (W.alloc (.cells #[] 42)) := (Below.refl _ _).alloc (Nat.le_refl _) _
   have HAl := hid hal
   have HO : Hid ((W.alloc (.cells #[] 42)).ownsRow W1.heap.size 42 9 (.slice (some ⟨W.heap.size, 0, none⟩) 0 0) 0 []) := own_empty (empty_newE W _) hJ.bl.size
   clear hJ hd hW hal
   go_wp2
   first | exact ⟨_, rfl, HJ.out.s2 HD.out HAl.out HO.out⟩ | exact HJ.out.s2 HD.out HAl.out HO.out
  ·obtain ⟨x0, x1, xf, xlt⟩ := HX0.out.below hJ.bl
   simp [fillFrom, Act.put]
   have HJ := hid hJ
   clear hJ hd hW
   go_wp2
   first | exact ⟨_, rfl, HJ.out.s3⟩ | exact HJ.out.s3
  ·have h3 : d 3 = true := by first | exact hW | exact hW.1 | exact hW.2 | exact hW.2.1 | exact hW.2.2 | exact hW.2.2.1 | exact hW.2.2.2
   obtain ⟨x0, x1, xf, xlt⟩ := HX0.out.below hJ.bl
   simp [fillFrom, Act.put]
   generalize hg3 : g 3 = y3
   obtain rfl := hg3.symm.trans (hJ.v3 h3)
   have HJ := hid hJ
   clear hJ hd hW
   go_wp2
   first | exact ⟨_, rfl, HJ.out.s4⟩ | exact HJ.out.s4
  ·have h2 : d 2 = true := by first | exact hW | exact hW.1 | exact hW.2 | exact hW.2.1 | exact hW.2.2 | exact hW.2.2.1 | exact hW.2.2.2
   have h4 : d 4 = true := by first | exact hW | exact hW.1 | exact hW.2 | exact hW.2.1 | exact hW.2.2 | exact hW.2.2.1 | exact hW.2.2.2
   obtain ⟨x0, x1, xf, xlt⟩ := HX0.out.below hJ.bl
   simp [fillFrom, Act.put]
   have hx := hJ.v4 h4
   rw [hx]
   refine wpList_append_src (by rfl) (.tmp 7) (.tmp 9) 23 23 (by rfl) W1.heap.size 42 (.agg #[.int .i64 0, .int .i64 0, .int .i64 0, .int .i64 0, .int .i64 0, .int .i64 0, .int .i64 0, .slice none 0 0, .slice none 0 0]) 9 104 Tryz.underlying23 Tryz.underlying23 Tryz.infoLay rfl (by omega) (g 2) 0 [] (by rfl) (hJ.c2 h2 hd) a2 L.length c2 C (by rfl) (HS1.out.below hJ.bl) (by omega) (by unfold maxLen; omega) hJ.bl.size ?_
   intro v' w' k1 k2 k3
   have hb' : Below W1.heap.size W w' := (Below.refl _ _).grown k2 hJ.bl.size (fun k hk => ((hJ.c2 h2 hd).lt k hk).1)
   rw [Nat.zero_add, List.nil_append] at k1
   exact ⟨_, rfl, hJ.s5 hd h2 hb' k1⟩
  ·obtain ⟨x0, x1, xf, xlt⟩ := HX0.out.below hJ.bl
   simp [fillFrom, Act.put]
   have HJ := hid hJ
   clear hJ hd hW
   go_wp2
   first | exact ⟨_, rfl, HJ.out.s6⟩ | exact HJ.out.s6
  ·have h5 : d 5 = true := by first | exact hW | exact hW.1 | exact hW.2 | exact hW.2.1 | exact hW.2.2 | exact hW.2.2.1 | exact hW.2.2.2
   have h6 : d 6 = true := by first | exact hW | exact hW.1 | exact hW.2 | exact hW.2.1 | exact hW.2.2 | exact hW.2.2.1 | exact hW.2.2.2
   obtain ⟨x0, x1, xf, xlt⟩ := HX0.out.below hJ.bl
   simp [fillFrom, Act.put]
   have hx := hJ.v6 h6
   rw [hx]
   refine wpList_append_src (by rfl) (.tmp 10) (.tmp 11) 23 23 (by rfl) W1.heap.size 42 (.agg #[.int .i64 0, .int .i64 0, .int .i64 0, .int .i64 0, .int .i64 0, .int .i64 0, .int .i64 0, .slice none 0 0, .slice none 0 0]) 9 104 Tryz.underlying23 Tryz.underlying23 Tryz.infoLay rfl (by omega) (g 5) L.length C (by rfl) (hJ.c5 h5 hd) aN M.length cN N (by rfl) (HS2.out.below hJ.bl) (by omega) (by unfold maxLen; omega) hJ.bl.size ?_
   intro v' w' k1 k2 k3
   have hb' : Below W1.heap.size W w' := (Below.refl _ _).grown k2 hJ.bl.size (fun k hk => ((hJ.c5 h5 hd).lt k hk).1)
   exact ⟨_, rfl, hJ.s7 hd h5 hb' k1⟩
  ·have h1 : d 1 = true := by first | exact hW | exact hW.1 | exact hW.2 | exact hW.2.1 | exact hW.2.2 | exact hW.2.2.1 | exact hW.2.2.2
   have h7 : d 7 = true := by first | exact hW | exact hW.1 | exact hW.2 | exact hW.2.1 | exact hW.2.2 | exact hW.2.2.1 | exact hW.2.2.2
   obtain ⟨x0, x1, xf, xlt⟩ := HX0.out.below hJ.bl
   simp [fillFrom, Act.put]
   generalize hg1 : g 1 = y1
   obtain rfl := hg1.symm.trans (hJ.v1 h1)
   have H8 := hid (hJ.s8 h7)
   obtain ⟨a7, k7, e7⟩ := own_form9 (hJ.c7 h7)
   rw [e7] at H8
   rw [e7]
   clear hJ hd hW e7
   go_wp2
   first | exact ⟨_, rfl, H8.out⟩ | exact H8.out
 ·intro ops d g W hA hJ
  have hown := hJ.c7 (hA 7 (by decide))
  obtain ⟨_, u, h8, h7⟩ := hJ.v8 (hA 8 (by decide))
  rw [h7] at hown
  rw [HCe.out.1, HCe.out.2, <- List.flatten_append] at hown
  have h9 := HC1.out.append HN1.out
  have h9' := h9.below hJ.bl
  obtain ⟨a, cap, rfl, hla⟩ := own_lays (L := L ++ M) hown (by rw [List.length_append]) (by omega) (by rw [h9.len, List.length_append]) h9'.row h9.nine
  rw [List.length_append] at h8
  have hne : ∀ b off, a = some ⟨b, off, none⟩ -> w.heap.size + 1 ≠ b := fun b off e => by
   have hlt := (hown.lt b (by rw [e]; rfl)).1
   have := HR.out.lt
   omega
  have hai := HAb.out.belowB hJ.bl HR.out.lt
  have HLa := hid ((hla.set hne hai 0 (.slice a1 nI c1)).set hne (hai.set 0 rfl) 1 (.slice a (L.length + M.length) cap))
  obtain ⟨z0, z1, zf, zlt⟩ := HR.out.below hJ.bl
  have HBe := hid (HBa.out.trans (hJ.bl.mono HBa.out.size))
  have H8 := hid h8
  clear hown h7 h9 h9' hla hne hai hA hJ h8
  simp only [List.take_succ_cons, List.take_zero, List.drop_succ_cons, List.drop_zero]
  simp [fillFrom, Act.put]
  rw [H8.out]
  have HBe2 : Hid (Below w.heap.size w ((W.setCell ⟨w.heap.size + 1, 0, none⟩ (.slice a1 nI c1)).setCell ⟨w.heap.size + 1, 1, none⟩ (.slice a (L.length + M.length) cap))) := (HBe.out.setCell (p := ⟨w.heap.size + 1, 0, none⟩) (Nat.le_succ _) _).setCell (p := ⟨w.heap.size + 1, 1, none⟩) (Nat.le_succ _) _
  have hr0 : ((W.setCell ⟨w.heap.size + 1, 0, none⟩ (.slice a1 nI c1)).setCell ⟨w.heap.size + 1, 1, none⟩ (.slice a (L.length + M.length) cap)).cell? ⟨w.heap.size + 1, 0, none⟩ = some (.slice a1 nI c1) := by
   rw [World.cell?_setCell_other _ _ _ _ (by intro e; cases e)]
   exact World.cell?_setCell_same _ _ _ z0
  have hr1 : ((W.setCell ⟨w.heap.size + 1, 0, none⟩ (.slice a1 nI c1)).setCell ⟨w.heap.size + 1, 1, none⟩ (.slice a (L.length + M.length) cap)).cell? ⟨w.heap.size + 1, 1, none⟩ = some (.slice a (L.length + M.length) cap) := by
   exact World.cell?_setCell_same _ _ _ ((World.cell?_setCell_other _ _ _ _ (by intro e; cases e)).trans z1)
  have HR0 := hid (And.intro hr0 hr1)
  clear hr0 hr1
  go_wp2
  generalize (W.setCell ⟨w.heap.size + 1, 0, none⟩ (.slice a1 nI c1)).setCell ⟨w.heap.size + 1, 1, none⟩ (.slice a (L.length + M.length) cap) = Y at *
  have hNP : WithPost w a1 nI c1 (L ++ M) (.returned (.agg #[.slice a1 nI c1, .slice a (L.length + M.length) cap])) Y := ⟨a, cap, by rw [List.length_append], HLa.out, HBe2.out⟩
  obtain ⟨r0, r1⟩ := HR0.out
  exact bodyPost_ret (v := .agg #[.slice a1 nI c1, .slice a (L.length + M.length) cap]) (by simp [results, Tryz.results20, go_sem, r0, r1]) rfl hNP
end Go.Proofs.YtoppijdedkdjeaaGreat

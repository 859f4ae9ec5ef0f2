/-
  Contracts of the functions that the statement reaches: LwD, LwE.
-/
import Derived.Test.YtoppijdedkdjeaaGreatC43
import Derived.Test.YtoppijdedkdjeaaGreatC35
set_option linter.unusedVariables false
set_option linter.unusedSimpArgs false
set_option linter.constructorNameAsVariable false
set_option linter.deprecated false
set_option maxRecDepth 100000
set_option maxHeartbeats 3200000
namespace Go.Proofs.YtoppijdedkdjeaaGreat
open Go.RowKit
open Go.Lib (hid)
theorem evRunP {w : World} {m : ModL} {a1 a2 ax : Option Addr} {L : List RatL} (c1 c2 cx : Nat) (h1 : Ints w Any a1 m.input) (h2 : LaysAt w a2 m.layers) (hr : ∀ l ∈ m.layers, LayRange l) (hs : ∀ l ∈ m.layers, LayLe l)
  (hX : RatsAt w ax L) (hp : Paid m L) : Calls Tryz.prog 17 #[.agg #[.slice a1 m.input.length c1, .slice a2 m.layers.length c2], .slice ax L.length cx] w (RunPost w (runL m (L.map ratOf))) := by
 obtain ⟨D, hD, hB, hR⟩ := hp.room
 have hl := hp.lens
 have hX' := hX
 rw [hp.back] at hX'
 have hR' : RoomK ((12 - m.layers.length) + m.layers.length) D 18446744073709551616 := by rw [Nat.sub_add_cancel (by omega)]; exact hR
 have h := evRun (x := L.map ratOf) c1 c2 cx h1 h2 hr hs hX' hp.sm hB hD (by omega) (by omega) hR (by rw [List.length_map]; have := hp.xl; omega) (fun l hl => Nat.le_trans (trace_len hR' hB hD (by omega) hp.sm l hl) (by omega))
 rw [List.length_map] at h
 exact h
theorem rats2_alloc {w : World} {p q : RatL} {an ad bn bd : Option Addr} {cn cd dn dd : Nat} (b2 : p.num.length <= cn) (b3 : p.den.length <= cd) (b4 : U32s w an p.num) (b5 : U32s w ad p.den) (g2 : q.num.length <= dn) (g3 : q.den.length <= dd) (g4 : U32s w bn q.num) (g5 : U32s w bd q.den) (T : Nat) :
  RatsAt (w.alloc (.cells #[.bool p.neg, .slice an p.num.length cn, .slice ad p.den.length cd, .bool q.neg, .slice bn q.num.length dn, .slice bd q.den.length dd] T)) (some ⟨w.heap.size, 0, none⟩) [p, q] := by
 have hal : Below w.heap.size w (w.alloc (.cells #[.bool p.neg, .slice an p.num.length cn, .slice ad p.den.length cd, .bool q.neg, .slice bn q.num.length dn, .slice bd q.den.length dd] T)) := (Below.refl _ _).alloc (Nat.le_refl _) _
 refine ⟨by simp, .inr ⟨w.heap.size, 0, rfl, by simp, fun j x hj => ?_⟩⟩
 match j, hj with
 | 0, hj =>
  simp at hj
  subst hj
  exact ⟨an, ad, cn, cd, by rw [World.cell?_alloc_at _ _ _ _ rfl]; rfl, by rw [World.cell?_alloc_at _ _ _ _ rfl]; rfl, by rw [World.cell?_alloc_at _ _ _ _ rfl]; rfl, ⟨an, ad, cn, cd, rfl, b2, b3, b4.below hal, b5.below hal⟩⟩
 | 1, hj =>
  simp at hj
  subst hj
  exact ⟨bn, bd, dn, dd, by rw [World.cell?_alloc_at _ _ _ _ rfl]; rfl, by rw [World.cell?_alloc_at _ _ _ _ rfl]; rfl, by rw [World.cell?_alloc_at _ _ _ _ rfl]; rfl, ⟨bn, bd, dn, dd, rfl, g2, g3, g4.below hal, g5.below hal⟩⟩
theorem rats1_alloc {w : World} {p : RatL} {an ad : Option Addr} {cn cd : Nat} (b2 : p.num.length <= cn) (b3 : p.den.length <= cd) (b4 : U32s w an p.num) (b5 : U32s w ad p.den) (T : Nat) :
  RatsAt (w.alloc (.cells #[.bool p.neg, .slice an p.num.length cn, .slice ad p.den.length cd] T)) (some ⟨w.heap.size, 0, none⟩) [p] := by
 have hal : Below w.heap.size w (w.alloc (.cells #[.bool p.neg, .slice an p.num.length cn, .slice ad p.den.length cd] T)) := (Below.refl _ _).alloc (Nat.le_refl _) _
 refine ⟨by simp, .inr ⟨w.heap.size, 0, rfl, by simp, fun j x hj => ?_⟩⟩
 match j, hj with
 | 0, hj =>
  simp at hj
  subst hj
  exact ⟨an, ad, cn, cd, by rw [World.cell?_alloc_at _ _ _ _ rfl]; rfl, by rw [World.cell?_alloc_at _ _ _ _ rfl]; rfl, by rw [World.cell?_alloc_at _ _ _ _ rfl]; rfl, ⟨an, ad, cn, cd, rfl, b2, b3, b4.below hal, b5.below hal⟩⟩
theorem ex_mem {w w1 w2 : World} {p q : RatL} {an ad bn bd : Option Addr} {cn cd dn dd : Nat} (hp : p = ratL 1) (hq : q = ratL (-1)) (kb1 : Below (w.alloc (.cells #[.int .i64 2] 3)).heap.size (w.alloc (.cells #[.int .i64 2] 3)) w1) (kb2 : Below w1.heap.size w1 w2)
  (b2 : p.num.length <= cn) (b3 : p.den.length <= cd) (b4 : U32s w1 an p.num) (b5 : U32s w1 ad p.den) (g2 : q.num.length <= dn) (g3 : q.den.length <= dd) (g4 : U32s w2 bn q.num) (g5 : U32s w2 bd q.den) {A : World}
  (hA : A = ((((w2.alloc (.cells #[.bool p.neg, .slice an p.num.length cn, .slice ad p.den.length cd, .bool q.neg, .slice bn q.num.length dn, .slice bd q.den.length dd] 37)).alloc (zerO 37)).alloc
   (.cells #[.int .i64 1, .int .i64 0, .int .i64 1, .int .i64 0, .int .i64 0, .int .i64 0, .int .i64 0, .slice (some ⟨w2.heap.size, 0, none⟩) 2 2, .slice (some ⟨w2.heap.size + 1, 0, none⟩) 1 1, .int .i64 5, .int .i64 0, .int .i64 0, .int .i64 0, .int .i64 0, .int .i64 0, .int .i64 0, .slice none 0 0, .slice none 0 0] 42)).alloc
   (.cells #[.slice (some ⟨w.heap.size, 0, none⟩) 1 1, .slice (some ⟨w2.heap.size + 1 + 1, 0, none⟩) 2 2] 25))) :
  Ints A Any (some ⟨w.heap.size, 0, none⟩) [2] /\ LaysAt A (some ⟨w2.heap.size + 1 + 1, 0, none⟩) [exD, exR] /\ A.cell? ⟨w2.heap.size + 1 + 1 + 1, 0, none⟩ = some (.slice (some ⟨w.heap.size, 0, none⟩) 1 1) /\ A.cell? ⟨w2.heap.size + 1 + 1 + 1, 1, none⟩ = some (.slice (some ⟨w2.heap.size + 1 + 1, 0, none⟩) 2 2) /\
   w2.heap.size + 1 + 1 + 1 < A.heap.size /\ Below w.heap.size w A := by
 have hst := fun (W : World) (o : Obj) => (Below.refl W.heap.size W).alloc (Nat.le_refl _) o
 have hW := rats2_alloc b2 b3 (b4.below kb2) (b5.below kb2) g2 g3 g4 g5 37
 have m1 := hst w2 (.cells #[.bool p.neg, .slice an p.num.length cn, .slice ad p.den.length cd, .bool q.neg, .slice bn q.num.length dn, .slice bd q.den.length dd] 37)
 have s1 : (w2.alloc (.cells #[.bool p.neg, .slice an p.num.length cn, .slice ad p.den.length cd, .bool q.neg, .slice bn q.num.length dn, .slice bd q.den.length dd] 37)).heap.size = w2.heap.size + 1 := by simp
 generalize w2.alloc (.cells #[.bool p.neg, .slice an p.num.length cn, .slice ad p.den.length cd, .bool q.neg, .slice bn q.num.length dn, .slice bd q.den.length dd] 37) = A1 at *
 have hZ := rats1_alloc (w := A1) (p := ⟨false, [], []⟩) (an := none) (ad := none) (cn := 0) (cd := 0) (Nat.le_refl _) (Nat.le_refl _) (U32s.nil _ _) (U32s.nil _ _) 37
 have m2 := hst A1 (zerO 37)
 have s2 : (A1.alloc (zerO 37)).heap.size = w2.heap.size + 1 + 1 := by simp [s1]
 simp only [List.length_nil] at hZ
 generalize A1.alloc (zerO 37) = A2 at *
 have m3 := hst A2 (.cells #[.int .i64 1, .int .i64 0, .int .i64 1, .int .i64 0, .int .i64 0, .int .i64 0, .int .i64 0, .slice (some ⟨w2.heap.size, 0, none⟩) 2 2, .slice (some ⟨w2.heap.size + 1, 0, none⟩) 1 1, .int .i64 5, .int .i64 0, .int .i64 0, .int .i64 0, .int .i64 0, .int .i64 0, .int .i64 0, .slice none 0 0, .slice none 0 0] 42)
 have hc : ∀ i v, (#[.int .i64 1, .int .i64 0, .int .i64 1, .int .i64 0, .int .i64 0, .int .i64 0, .int .i64 0, .slice (some ⟨w2.heap.size, 0, none⟩) 2 2, .slice (some ⟨w2.heap.size + 1, 0, none⟩) 1 1, .int .i64 5, .int .i64 0, .int .i64 0, .int .i64 0, .int .i64 0, .int .i64 0, .int .i64 0, .slice none 0 0, .slice none 0 0] : Array Value)[i]? = some v ->
   (A2.alloc (.cells #[.int .i64 1, .int .i64 0, .int .i64 1, .int .i64 0, .int .i64 0, .int .i64 0, .int .i64 0, .slice (some ⟨w2.heap.size, 0, none⟩) 2 2, .slice (some ⟨w2.heap.size + 1, 0, none⟩) 1 1, .int .i64 5, .int .i64 0, .int .i64 0, .int .i64 0, .int .i64 0, .int .i64 0, .int .i64 0, .slice none 0 0, .slice none 0 0] 42)).cell? ⟨w2.heap.size + 1 + 1, i, none⟩ = some v := by
  intro i v h
  rw [World.cell?_alloc_at _ _ _ _ s2.symm]
  exact h
 have s3 : (A2.alloc (.cells #[.int .i64 1, .int .i64 0, .int .i64 1, .int .i64 0, .int .i64 0, .int .i64 0, .int .i64 0, .slice (some ⟨w2.heap.size, 0, none⟩) 2 2, .slice (some ⟨w2.heap.size + 1, 0, none⟩) 1 1, .int .i64 5, .int .i64 0, .int .i64 0, .int .i64 0, .int .i64 0, .int .i64 0, .int .i64 0, .slice none 0 0, .slice none 0 0] 42)).heap.size = w2.heap.size + 1 + 1 + 1 := by simp [s2]
 generalize A2.alloc (.cells #[.int .i64 1, .int .i64 0, .int .i64 1, .int .i64 0, .int .i64 0, .int .i64 0, .int .i64 0, .slice (some ⟨w2.heap.size, 0, none⟩) 2 2, .slice (some ⟨w2.heap.size + 1, 0, none⟩) 1 1, .int .i64 5, .int .i64 0, .int .i64 0, .int .i64 0, .int .i64 0, .int .i64 0, .int .i64 0, .slice none 0 0, .slice none 0 0] 42) = A3 at *
 have m4 := hst A3 (.cells #[.slice (some ⟨w.heap.size, 0, none⟩) 1 1, .slice (some ⟨w2.heap.size + 1 + 1, 0, none⟩) 2 2] 25)
 have hb2 := Box2.alloc A3 (.slice (some ⟨w.heap.size, 0, none⟩) 1 1) (.slice (some ⟨w2.heap.size + 1 + 1, 0, none⟩) 2 2) 25
 rw [<- hA] at m4 hb2
 rw [s3] at hb2
 have hi := ints1_of (x := 2) (by unfold I64; omega) (show (w.alloc (.cells #[.int .i64 2] 3)).cell? ⟨w.heap.size, 0, none⟩ = some (.int .i64 2) by rw [World.cell?_alloc_at _ _ _ _ rfl]; rfl) (by simp)
 have t1 := kb1.trans (kb2.mono kb1.size)
 have t2 := t1.trans (m1.mono t1.size)
 have t3 := t2.trans (m2.mono t2.size)
 have t4 := t3.trans (m3.mono t3.size)
 have t5 := t4.trans (m4.mono t4.size)
 have u0 := hst w (.cells #[.int .i64 2] 3)
 refine ⟨hi.below t5, ⟨by simp, .inr ⟨_, 0, rfl, by have := m4.size; omega, fun j x hj => ?_⟩⟩, hb2.c0, hb2.c1, hb2.lt, u0.trans (t5.mono u0.size)⟩
 have r34 : ∀ i v, A3.cell? ⟨w2.heap.size + 1 + 1, i, none⟩ = some v -> A.cell? ⟨w2.heap.size + 1 + 1, i, none⟩ = some v := fun i v h => (m4.cell (p := ⟨w2.heap.size + 1 + 1, i, none⟩) (by show w2.heap.size + 1 + 1 < A3.heap.size; omega)).trans h
 match j, hj with
 | 0, hj =>
  simp at hj
  subst hj
  refine ⟨some ⟨w2.heap.size, 0, none⟩, some ⟨w2.heap.size + 1, 0, none⟩, 2, 1, ⟨r34 _ _ (hc 0 _ rfl), r34 _ _ (hc 1 _ rfl), r34 _ _ (hc 2 _ rfl), r34 _ _ (hc 3 _ rfl), r34 _ _ (hc 4 _ rfl), r34 _ _ (hc 5 _ rfl), r34 _ _ (hc 6 _ rfl), r34 _ _ (hc 7 _ rfl), r34 _ _ (hc 8 _ rfl)⟩, ?_, ?_⟩
  ·show RatsAt _ _ [ratL 1, ratL (-1)]
   rw [<- hp, <- hq]
   exact ((hW.below m2).below m3).below m4
  ·show RatsAt _ _ [ratL 0]
   rw [ratL_zeroE]
   rw [s1] at hZ
   exact (hZ.below m3).below m4
 | 1, hj =>
  simp at hj
  subst hj
  exact ⟨none, none, 0, 0, ⟨r34 _ _ (hc 9 _ rfl), r34 _ _ (hc 10 _ rfl), r34 _ _ (hc 11 _ rfl), r34 _ _ (hc 12 _ rfl), r34 _ _ (hc 13 _ rfl), r34 _ _ (hc 14 _ rfl), r34 _ _ (hc 15 _ rfl), r34 _ _ (hc 16 _ rfl), r34 _ _ (hc 17 _ rfl)⟩, ⟨by simp [exR], .inl rfl⟩, ⟨by simp [exR], .inl rfl⟩⟩
def AwG (m : Value) (p q z : RatL) (i : Nat) (v : Value) (w : World) : Prop :=
 match i with
 | 0 => v = m
 | 1 => RatV w v p
 | 2 => RatV w v q
 | 3 => ∃ a, v = .slice a 2 2 /\ RatsAt w a [p, q]
 | 4 => ∃ a c, v = .tuple #[.slice a 1 c, .int .i64 0] /\ RatsAt w a [z]
 | 5 => ∃ a c, v = .tuple #[.slice a 1 c, .int .i64 0] /\ RatsAt w a [z]
 | 6 => ∃ a c, v = .slice a 1 c /\ RatsAt w a [z]
 | 7 => v = .int .i64 0
 | 8 => ∃ a c, v = .slice a 1 c /\ RatsAt w a [z]
 | 9 => v = .int .i64 0
 | _ => True
theorem AwG_below {m : Value} {p q z : RatL} {i : Nat} {v : Value} {w w' : World} (h : AwG m p q z i v w) (hb : Below w.heap.size w w') : AwG m p q z i v w' := by
 match i, h with
 | 0, h => exact h
 | 1, h => exact RatV.below h hb
 | 2, h => exact RatV.below h hb
 | 3, ⟨a, e, k⟩ => exact ⟨a, e, k.below hb⟩
 | 4, ⟨a, c, e, k⟩ => exact ⟨a, c, e, k.below hb⟩
 | 5, ⟨a, c, e, k⟩ => exact ⟨a, c, e, k.below hb⟩
 | 6, ⟨a, c, e, k⟩ => exact ⟨a, c, e, k.below hb⟩
 | 7, h => exact h
 | 8, ⟨a, c, e, k⟩ => exact ⟨a, c, e, k.below hb⟩
 | 9, h => exact h
 | _ + 10, _ => trivial
theorem awake14 (w : World) : Calls Tryz.prog 11 #[] w fun e w' => e = .returned (.bool true) /\ Below w.heap.size w w' := by
 have hOf1 : ∀ W, Calls Tryz.prog 35 #[.int .i64 1] W (RetR W (ratL 1)) := fun W => r3Of W 1 (by omega) (by omega)
 have hOfm : ∀ W, Calls Tryz.prog 35 #[.int .i64 (-1)] W (RetR W (ratL (-1))) := fun W => r3Of W (-1) (by omega) (by omega)
 have hOf3 : ∀ W, Calls Tryz.prog 35 #[.int .i64 3] W (RetR W (ratL 3)) := fun W => r3Of W 3 (by omega) (by omega)
 have hOf2 : ∀ W, Calls Tryz.prog 35 #[.int .i64 2] W (RetR W (ratL 2)) := fun W => r3Of W 2 (by omega) (by omega)
 go_enter Tryz.func11, Tryz.ntmps11
 go_wp2_with fail
 refine (hOf1 _).mono ?_
 rintro e w1 ⟨v1, rfl, kv1, kb1⟩
 go_wp2_with fail
 refine (hOfm _).mono ?_
 rintro e w2 ⟨v2, rfl, kv2, kb2⟩
 obtain ⟨p, hp⟩ : ∃ p, p = ratL 1 := ⟨_, rfl⟩
 obtain ⟨q, hq⟩ : ∃ q, q = ratL (-1) := ⟨_, rfl⟩
 rw [<- hp] at kv1
 rw [<- hq] at kv2
 obtain ⟨an, ad, cn, cd, rfl, b2, b3, b4, b5⟩ := kv1.ex
 obtain ⟨bn, bd, dn, dd, rfl, g2, g3, g4, g5⟩ := kv2.ex
 have hp1 := hid hp
 have hq1 := hid hq
 have HB1 := hid kb1
 have HB2 := hid kb2
 have HP4 := hid b4
 have HP5 := hid b5
 have HG4 := hid g4
 have HG5 := hid g5
 clear hp hq kv1 kv2 kb1 kb2 b4 b5 g4 g5
 go_upto_region 2 with fail
 generalize hAe : (((w2.alloc (.cells #[.bool p.neg, .slice an p.num.length cn, .slice ad p.den.length cd, .bool q.neg, .slice bn q.num.length dn, .slice bd q.den.length dd] 37)).alloc (zerO 37)).alloc
   (.cells #[.int .i64 1, .int .i64 0, .int .i64 1, .int .i64 0, .int .i64 0, .int .i64 0, .int .i64 0, .slice (some ⟨w2.heap.size, 0, none⟩) 2 2, .slice (some ⟨w2.heap.size + 1, 0, none⟩) 1 1, .int .i64 5, .int .i64 0, .int .i64 0, .int .i64 0, .int .i64 0, .int .i64 0, .int .i64 0, .slice none 0 0, .slice none 0 0] 42)).alloc
   (.cells #[.slice (some ⟨w.heap.size, 0, none⟩) 1 1, .slice (some ⟨w2.heap.size + 1 + 1, 0, none⟩) 2 2] 25) = W1
 obtain ⟨hi, hla, hc0, hc1, hlt, hbe⟩ := ex_mem hp1.out hq1.out HB1.out HB2.out b2 b3 HP4.out HP5.out g2 g3 HG4.out HG5.out hAe.symm
 obtain ⟨MV, hMV⟩ : ∃ MV, MV = Value.agg #[.slice (some ⟨w.heap.size, 0, none⟩) 1 1, .slice (some ⟨w2.heap.size + 1 + 1, 0, none⟩) 2 2] := ⟨_, rfl⟩
 have HI := hid hi
 have HLa := hid hla
 have HBe := hid hbe
 have hRun : ∀ (x : List Rat) (z : Rat), x.length = 2 -> Paid exM (x.map ratL) -> runL exM x = ([ratL z], 0) -> ∀ W a, Below W1.heap.size W1 W -> RatsAt W a (x.map ratL) -> Calls Tryz.prog 17 #[MV, .slice a 2 2] W (fun e w' => ∃ b c, e = .returned (.tuple #[.slice b 1 c, .int .i64 0]) /\ 1 <= c /\ RatsAt w' b [ratL z] /\ Below W.heap.size W w') := by
  intro x z hx hp hr W a hb hX
  have h := evRunP (m := exM) 1 2 2 (HI.out.below hb) (HLa.out.below hb) exM_range exM_le hX hp
  rw [List.length_map, hx] at h
  rw [hMV]
  refine h.mono ?_
  rintro e w' ⟨b, c, rfl, hc, hR, hbb⟩
  have e1 : (x.map ratL).map ratOf = x := by
   rw [List.map_map]
   have : (ratOf ∘ ratL) = id := by funext q; exact ratOf_ratL q
   rw [this, List.map_id]
  rw [e1, hr] at hc hR ⊢
  exact ⟨b, c, rfl, hc, hR, hbb⟩
 have s1 : smallR (ratL 1) = true := by rw [ratL_one]; rfl
 have s3 : smallR (ratL 3) = true := by rw [ratL_three]; rfl
 have hRun1 := hRun [1, 3] 0 rfl (fair_paid (exM_fair 1 3 s1 s3)) exM_run1
 have hRun2 := hRun [3, 1] 2 rfl (fair_paid (exM_fair 3 1 s3 s1)) exM_run2
 simp only [List.map_cons, List.map_nil] at hRun1 hRun2
 have HCe : Hid (∀ W, Below W1.heap.size W1 W -> W.cell? ⟨w2.heap.size + 1 + 1 + 1, 0, none⟩ = some (.slice (some ⟨w.heap.size, 0, none⟩) 1 1) /\ W.cell? ⟨w2.heap.size + 1 + 1 + 1, 1, none⟩ = some (.slice (some ⟨w2.heap.size + 1 + 1, 0, none⟩) 2 2)) := fun W hb => ⟨(hb.cell hlt).trans hc0, (hb.cell hlt).trans hc1⟩
 have HRun1 := hid hRun1
 have HRun2 := hid hRun2
 have HMV := hid hMV
 clear hi hla hc0 hc1 hbe hRun hRun1 hRun2 hAe HP4 HP5 HG4 HG5 HB1 HB2 s1 s3
 rw [<- hMV]
 clear hMV
 refine wp_region_slots_all (by kernel_rfl) (by kernel_rfl) (by kernel_rfl) (AllJ W1 (AwG MV (ratL 1) (ratL 3) (ratL 0))) (fun g => AllJ.start g) ?_ ?_
 ·intro ops
  simp only [ShowsJ]
  refine ⟨?_, ?_, ?_, ?_, ?_, ?_, ?_, ?_, ?_, ?_, trivial⟩
  all_goals (intro d g W hJ hd hW; obtain ⟨x0, x1⟩ := HCe.out W hJ.be; simp only [Waits, Region.binds, forall_const, Bool.false_eq_true, false_implies, and_true, true_and] at hW)
  ·simp [fillFrom, Act.put]
   have HJ := hid hJ
   clear hJ hd hW
   go_wp2
   first | exact ⟨_, rfl, HJ.out.here (fun i v w w' h hb => AwG_below h hb) HMV.out.symm⟩ | exact ⟨rfl, _, HJ.out.here (fun i v w w' h hb => AwG_below h hb) HMV.out.symm⟩ | exact HJ.out.here (fun i v w w' h hb => AwG_below h hb) HMV.out.symm
  ·simp [fillFrom, Act.put]
   have HJ := hid hJ
   clear hJ hd hW
   have HCt := hid (hOf1 W)
   go_wp2_with fail
   refine HCt.out.mono ?_
   rintro e w1 ⟨v1, rfl, kv, kb⟩
   have KB := hid kb
   have KV := hid kv
   clear kv
   clear kb HCt
   go_wp2
   first | exact ⟨_, rfl, HJ.out.step (fun i v w w' h hb => AwG_below h hb) KB.out KV.out⟩ | exact HJ.out.step (fun i v w w' h hb => AwG_below h hb) KB.out KV.out
  ·simp [fillFrom, Act.put]
   have HJ := hid hJ
   clear hJ hd hW
   have HCt := hid (hOf3 W)
   go_wp2_with fail
   refine HCt.out.mono ?_
   rintro e w1 ⟨v1, rfl, kv, kb⟩
   have KB := hid kb
   have KV := hid kv
   clear kv
   clear kb HCt
   go_wp2
   first | exact ⟨_, rfl, HJ.out.step (fun i v w w' h hb => AwG_below h hb) KB.out KV.out⟩ | exact HJ.out.step (fun i v w w' h hb => AwG_below h hb) KB.out KV.out
  ·have h1 : d 1 = true := by first | exact hW | exact hW.1 | exact hW.2 | exact hW.2.1 | exact hW.2.2 | exact hW.2.2.1 | exact hW.2.2.2 | exact hW.2.2.2.1 | exact hW.2.2.2.2
   have h2 : d 2 = true := by first | exact hW | exact hW.1 | exact hW.2 | exact hW.2.1 | exact hW.2.2 | exact hW.2.2.1 | exact hW.2.2.2 | exact hW.2.2.2.1 | exact hW.2.2.2.2
   have J1 := hJ.all 1 h1
   have J2 := hJ.all 2 h2
   simp only [AwG] at J1 J2
   simp [fillFrom, Act.put]
   generalize hg1 : g 1 = y1
   rw [hg1] at J1
   generalize hg2 : g 2 = y2
   rw [hg2] at J2
   obtain J1 := J1
   obtain J2 := J2
   have HJ := hid hJ
   clear hJ hd hW h1 h2
   obtain ⟨an, ad, cn, cd, rfl, b2, b3, b4, b5⟩ := J1.ex
   obtain ⟨bn, bd, dn, dd, rfl, k2, k3, k4, k5⟩ := J2.ex
   obtain ⟨p, hp⟩ : ∃ p, p = ratL 1 := ⟨_, rfl⟩
   obtain ⟨q, hq⟩ : ∃ q, q = ratL 3 := ⟨_, rfl⟩
   have HPQ := hid (And.intro hp hq)
   rw [<- hp] at b2 b3 b4 b5
   rw [<- hq] at k2 k3 k4 k5
   rw [<- hp, <- hq]
   rw [<- hp, <- hq] at HJ
   have hal : Below W.heap.size W (W.alloc (.cells #[.bool p.neg, .slice an p.num.length cn, .slice ad p.den.length cd, .bool q.neg, .slice bn q.num.length dn, .slice bd q.den.length dd] 37)) := (Below.refl _ _).alloc (Nat.le_refl _) _
   have HAl := hid hal
   have HR2 := hid (rats2_alloc b2 b3 b4 b5 k2 k3 k4 k5 37)
   clear b4 b5 k4 k5 J1 J2 hal hp hq
   go_wp2
   exact ⟨_, rfl, HJ.out.step (fun i v w w' h hb => AwG_below h hb) HAl.out ⟨_, rfl, HR2.out⟩⟩
  ·have h0 : d 0 = true := by first | exact hW | exact hW.1 | exact hW.2 | exact hW.2.1 | exact hW.2.2 | exact hW.2.2.1 | exact hW.2.2.2 | exact hW.2.2.2.1 | exact hW.2.2.2.2
   have h3 : d 3 = true := by first | exact hW | exact hW.1 | exact hW.2 | exact hW.2.1 | exact hW.2.2 | exact hW.2.2.1 | exact hW.2.2.2 | exact hW.2.2.2.1 | exact hW.2.2.2.2
   have J0 := hJ.all 0 h0
   have J3 := hJ.all 3 h3
   simp only [AwG] at J0 J3
   simp [fillFrom, Act.put]
   generalize hg0 : g 0 = y0
   rw [hg0] at J0
   generalize hg3 : g 3 = y3
   rw [hg3] at J3
   obtain rfl := J0
   obtain ⟨a, rfl, H3⟩ := J3
   have HJ := hid hJ
   clear hJ hd hW h0 h3
   have HCt := hid (HRun1.out W a HJ.out.be H3)
   go_wp2_with fail
   refine HCt.out.mono ?_
   rintro e w1 ⟨b, c, rfl, hc, hRR, kb⟩
   have KB := hid kb
   have KV := hid hRR
   clear hRR hc H3
   clear kb HCt
   go_wp2
   first | exact ⟨_, rfl, HJ.out.step (fun i v w w' h hb => AwG_below h hb) KB.out ⟨_, _, rfl, KV.out⟩⟩ | exact HJ.out.step (fun i v w w' h hb => AwG_below h hb) KB.out ⟨_, _, rfl, KV.out⟩
  ·have h4 : d 4 = true := by first | exact hW | exact hW.1 | exact hW.2 | exact hW.2.1 | exact hW.2.2 | exact hW.2.2.1 | exact hW.2.2.2 | exact hW.2.2.2.1 | exact hW.2.2.2.2
   have J4 := hJ.all 4 h4
   simp only [AwG] at J4
   simp [fillFrom, Act.put]
   generalize hg4 : g 4 = y4
   rw [hg4] at J4
   obtain ⟨b, c, rfl, H4⟩ := J4
   have HJ := hid hJ
   clear hJ hd hW h4
   have K := hid H4
   clear H4
   go_wp2
   first | exact ⟨_, rfl, HJ.out.here (fun i v w w' h hb => AwG_below h hb) ⟨_, _, rfl, K.out⟩⟩ | exact ⟨rfl, _, HJ.out.here (fun i v w w' h hb => AwG_below h hb) ⟨_, _, rfl, K.out⟩⟩ | exact HJ.out.here (fun i v w w' h hb => AwG_below h hb) ⟨_, _, rfl, K.out⟩
  ·have h5 : d 5 = true := by first | exact hW | exact hW.1 | exact hW.2 | exact hW.2.1 | exact hW.2.2 | exact hW.2.2.1 | exact hW.2.2.2 | exact hW.2.2.2.1 | exact hW.2.2.2.2
   have J5 := hJ.all 5 h5
   simp only [AwG] at J5
   simp [fillFrom, Act.put]
   generalize hg5 : g 5 = y5
   rw [hg5] at J5
   obtain ⟨b, c, rfl, H4⟩ := J5
   have HJ := hid hJ
   clear hJ hd hW h5
   have K := hid H4
   clear H4
   go_wp2
   first | exact ⟨_, rfl, HJ.out.here (fun i v w w' h hb => AwG_below h hb) ⟨_, _, rfl, K.out⟩⟩ | exact ⟨rfl, _, HJ.out.here (fun i v w w' h hb => AwG_below h hb) ⟨_, _, rfl, K.out⟩⟩ | exact HJ.out.here (fun i v w w' h hb => AwG_below h hb) ⟨_, _, rfl, K.out⟩
  ·have h5 : d 5 = true := by first | exact hW | exact hW.1 | exact hW.2 | exact hW.2.1 | exact hW.2.2 | exact hW.2.2.1 | exact hW.2.2.2 | exact hW.2.2.2.1 | exact hW.2.2.2.2
   have J5 := hJ.all 5 h5
   simp only [AwG] at J5
   simp [fillFrom, Act.put]
   generalize hg5 : g 5 = y5
   rw [hg5] at J5
   obtain ⟨b, c, rfl, H4⟩ := J5
   have HJ := hid hJ
   clear hJ hd hW h5
   clear H4
   go_wp2
   first | exact ⟨_, rfl, HJ.out.here (fun i v w w' h hb => AwG_below h hb) rfl⟩ | exact ⟨rfl, _, HJ.out.here (fun i v w w' h hb => AwG_below h hb) rfl⟩ | exact HJ.out.here (fun i v w w' h hb => AwG_below h hb) rfl
  ·have h6 : d 6 = true := by first | exact hW | exact hW.1 | exact hW.2 | exact hW.2.1 | exact hW.2.2 | exact hW.2.2.1 | exact hW.2.2.2 | exact hW.2.2.2.1 | exact hW.2.2.2.2
   have J6 := hJ.all 6 h6
   simp only [AwG] at J6
   simp [fillFrom, Act.put]
   generalize hg6 : g 6 = y6
   rw [hg6] at J6
   obtain ⟨b, c, rfl, H4⟩ := J6
   have HJ := hid hJ
   clear hJ hd hW h6
   have K := hid H4
   clear H4
   go_wp2
   first | exact ⟨_, rfl, HJ.out.here (fun i v w w' h hb => AwG_below h hb) ⟨_, _, rfl, K.out⟩⟩ | exact ⟨rfl, _, HJ.out.here (fun i v w w' h hb => AwG_below h hb) ⟨_, _, rfl, K.out⟩⟩ | exact HJ.out.here (fun i v w w' h hb => AwG_below h hb) ⟨_, _, rfl, K.out⟩
  ·have h7 : d 7 = true := by first | exact hW | exact hW.1 | exact hW.2 | exact hW.2.1 | exact hW.2.2 | exact hW.2.2.1 | exact hW.2.2.2 | exact hW.2.2.2.1 | exact hW.2.2.2.2
   have J7 := hJ.all 7 h7
   simp only [AwG] at J7
   simp [fillFrom, Act.put]
   generalize hg7 : g 7 = y7
   rw [hg7] at J7
   obtain rfl := J7
   have HJ := hid hJ
   clear hJ hd hW h7
   go_wp2
   first | exact ⟨_, rfl, HJ.out.here (fun i v w w' h hb => AwG_below h hb) rfl⟩ | exact ⟨rfl, _, HJ.out.here (fun i v w w' h hb => AwG_below h hb) rfl⟩ | exact HJ.out.here (fun i v w w' h hb => AwG_below h hb) rfl
 ·intro d g W hA hJ
  have J8 := hJ.all 8 (hA 8 (by decide))
  have J9 := hJ.all 9 (hA 9 (by decide))
  simp only [AwG] at J8 J9
  simp [fillFrom, Act.put]
  generalize hg8 : g 8 = y8
  rw [hg8] at J8
  generalize hg9 : g 9 = y9
  rw [hg9] at J9
  obtain rfl := J9
  obtain ⟨a2, c2, rfl, J8⟩ := J8
  have HVa := hid J8
  have HRa := hid hJ.be
  clear hJ J8 hA hg8 hg9
  obtain ⟨W2, hW2⟩ : ∃ W2 : World, W2 = W := ⟨_, rfl⟩
  subst hW2
  go_upto_region 3 with fail
  have HCf : Hid (∀ W, Below W2.heap.size W2 W -> W.cell? ⟨w2.heap.size + 1 + 1 + 1, 0, none⟩ = some (.slice (some ⟨w.heap.size, 0, none⟩) 1 1) /\ W.cell? ⟨w2.heap.size + 1 + 1 + 1, 1, none⟩ = some (.slice (some ⟨w2.heap.size + 1 + 1, 0, none⟩) 2 2)) := fun W hb => HCe.out W (HRa.out.trans (hb.mono HRa.out.size))
  have HRun2 := hid (fun W a (hb : Below W2.heap.size W2 W) h => HRun2.out W a (HRa.out.trans (hb.mono HRa.out.size)) h)
  refine wp_region_slots_all (by kernel_rfl) (by kernel_rfl) (by kernel_rfl) (AllJ W2 (AwG MV (ratL 3) (ratL 1) (ratL 2))) (fun g => AllJ.start g) ?_ ?_
  ·intro ops
   simp only [ShowsJ]
   refine ⟨?_, ?_, ?_, ?_, ?_, ?_, ?_, ?_, ?_, ?_, trivial⟩
   all_goals (intro d g W hJ hd hW; obtain ⟨x0, x1⟩ := HCf.out W hJ.be; simp only [Waits, Region.binds, forall_const, Bool.false_eq_true, false_implies, and_true, true_and] at hW)
   ·simp [fillFrom, Act.put]
    have HJ := hid hJ
    clear hJ hd hW
    go_wp2
    first | exact ⟨_, rfl, HJ.out.here (fun i v w w' h hb => AwG_below h hb) HMV.out.symm⟩ | exact ⟨rfl, _, HJ.out.here (fun i v w w' h hb => AwG_below h hb) HMV.out.symm⟩ | exact HJ.out.here (fun i v w w' h hb => AwG_below h hb) HMV.out.symm
   ·simp [fillFrom, Act.put]
    have HJ := hid hJ
    clear hJ hd hW
    have HCt := hid (hOf3 W)
    go_wp2_with fail
    refine HCt.out.mono ?_
    rintro e w1 ⟨v1, rfl, kv, kb⟩
    have KB := hid kb
    have KV := hid kv
    clear kv
    clear kb HCt
    go_wp2
    first | exact ⟨_, rfl, HJ.out.step (fun i v w w' h hb => AwG_below h hb) KB.out KV.out⟩ | exact HJ.out.step (fun i v w w' h hb => AwG_below h hb) KB.out KV.out
   ·simp [fillFrom, Act.put]
    have HJ := hid hJ
    clear hJ hd hW
    have HCt := hid (hOf1 W)
    go_wp2_with fail
    refine HCt.out.mono ?_
    rintro e w1 ⟨v1, rfl, kv, kb⟩
    have KB := hid kb
    have KV := hid kv
    clear kv
    clear kb HCt
    go_wp2
    first | exact ⟨_, rfl, HJ.out.step (fun i v w w' h hb => AwG_below h hb) KB.out KV.out⟩ | exact HJ.out.step (fun i v w w' h hb => AwG_below h hb) KB.out KV.out
   ·have h1 : d 1 = true := by first | exact hW | exact hW.1 | exact hW.2 | exact hW.2.1 | exact hW.2.2 | exact hW.2.2.1 | exact hW.2.2.2 | exact hW.2.2.2.1 | exact hW.2.2.2.2
    have h2 : d 2 = true := by first | exact hW | exact hW.1 | exact hW.2 | exact hW.2.1 | exact hW.2.2 | exact hW.2.2.1 | exact hW.2.2.2 | exact hW.2.2.2.1 | exact hW.2.2.2.2
    have J1 := hJ.all 1 h1
    have J2 := hJ.all 2 h2
    simp only [AwG] at J1 J2
    simp [fillFrom, Act.put]
    generalize hg1 : g 1 = y1
    rw [hg1] at J1
    generalize hg2 : g 2 = y2
    rw [hg2] at J2
    obtain J1 := J1
    obtain J2 := J2
    have HJ := hid hJ
    clear hJ hd hW h1 h2
    obtain ⟨an, ad, cn, cd, rfl, b2, b3, b4, b5⟩ := J1.ex
    obtain ⟨bn, bd, dn, dd, rfl, k2, k3, k4, k5⟩ := J2.ex
    obtain ⟨p, hp⟩ : ∃ p, p = ratL 3 := ⟨_, rfl⟩
    obtain ⟨q, hq⟩ : ∃ q, q = ratL 1 := ⟨_, rfl⟩
    have HPQ := hid (And.intro hp hq)
    rw [<- hp] at b2 b3 b4 b5
    rw [<- hq] at k2 k3 k4 k5
    rw [<- hp, <- hq]
    rw [<- hp, <- hq] at HJ
    have hal : Below W.heap.size W (W.alloc (.cells #[.bool p.neg, .slice an p.num.length cn, .slice ad p.den.length cd, .bool q.neg, .slice bn q.num.length dn, .slice bd q.den.length dd] 37)) := (Below.refl _ _).alloc (Nat.le_refl _) _
    have HAl := hid hal
    have HR2 := hid (rats2_alloc b2 b3 b4 b5 k2 k3 k4 k5 37)
    clear b4 b5 k4 k5 J1 J2 hal hp hq
    go_wp2
    exact ⟨_, rfl, HJ.out.step (fun i v w w' h hb => AwG_below h hb) HAl.out ⟨_, rfl, HR2.out⟩⟩
   ·have h0 : d 0 = true := by first | exact hW | exact hW.1 | exact hW.2 | exact hW.2.1 | exact hW.2.2 | exact hW.2.2.1 | exact hW.2.2.2 | exact hW.2.2.2.1 | exact hW.2.2.2.2
    have h3 : d 3 = true := by first | exact hW | exact hW.1 | exact hW.2 | exact hW.2.1 | exact hW.2.2 | exact hW.2.2.1 | exact hW.2.2.2 | exact hW.2.2.2.1 | exact hW.2.2.2.2
    have J0 := hJ.all 0 h0
    have J3 := hJ.all 3 h3
    simp only [AwG] at J0 J3
    simp [fillFrom, Act.put]
    generalize hg0 : g 0 = y0
    rw [hg0] at J0
    generalize hg3 : g 3 = y3
    rw [hg3] at J3
    obtain rfl := J0
    obtain ⟨a, rfl, H3⟩ := J3
    have HJ := hid hJ
    clear hJ hd hW h0 h3
    have HCt := hid (HRun2.out W a HJ.out.be H3)
    go_wp2_with fail
    refine HCt.out.mono ?_
    rintro e w1 ⟨b, c, rfl, hc, hRR, kb⟩
    have KB := hid kb
    have KV := hid hRR
    clear hRR hc H3
    clear kb HCt
    go_wp2
    first | exact ⟨_, rfl, HJ.out.step (fun i v w w' h hb => AwG_below h hb) KB.out ⟨_, _, rfl, KV.out⟩⟩ | exact HJ.out.step (fun i v w w' h hb => AwG_below h hb) KB.out ⟨_, _, rfl, KV.out⟩
   ·have h4 : d 4 = true := by first | exact hW | exact hW.1 | exact hW.2 | exact hW.2.1 | exact hW.2.2 | exact hW.2.2.1 | exact hW.2.2.2 | exact hW.2.2.2.1 | exact hW.2.2.2.2
    have J4 := hJ.all 4 h4
    simp only [AwG] at J4
    simp [fillFrom, Act.put]
    generalize hg4 : g 4 = y4
    rw [hg4] at J4
    obtain ⟨b, c, rfl, H4⟩ := J4
    have HJ := hid hJ
    clear hJ hd hW h4
    have K := hid H4
    clear H4
    go_wp2
    first | exact ⟨_, rfl, HJ.out.here (fun i v w w' h hb => AwG_below h hb) ⟨_, _, rfl, K.out⟩⟩ | exact ⟨rfl, _, HJ.out.here (fun i v w w' h hb => AwG_below h hb) ⟨_, _, rfl, K.out⟩⟩ | exact HJ.out.here (fun i v w w' h hb => AwG_below h hb) ⟨_, _, rfl, K.out⟩
   ·have h5 : d 5 = true := by first | exact hW | exact hW.1 | exact hW.2 | exact hW.2.1 | exact hW.2.2 | exact hW.2.2.1 | exact hW.2.2.2 | exact hW.2.2.2.1 | exact hW.2.2.2.2
    have J5 := hJ.all 5 h5
    simp only [AwG] at J5
    simp [fillFrom, Act.put]
    generalize hg5 : g 5 = y5
    rw [hg5] at J5
    obtain ⟨b, c, rfl, H4⟩ := J5
    have HJ := hid hJ
    clear hJ hd hW h5
    have K := hid H4
    clear H4
    go_wp2
    first | exact ⟨_, rfl, HJ.out.here (fun i v w w' h hb => AwG_below h hb) ⟨_, _, rfl, K.out⟩⟩ | exact ⟨rfl, _, HJ.out.here (fun i v w w' h hb => AwG_below h hb) ⟨_, _, rfl, K.out⟩⟩ | exact HJ.out.here (fun i v w w' h hb => AwG_below h hb) ⟨_, _, rfl, K.out⟩
   ·have h5 : d 5 = true := by first | exact hW | exact hW.1 | exact hW.2 | exact hW.2.1 | exact hW.2.2 | exact hW.2.2.1 | exact hW.2.2.2 | exact hW.2.2.2.1 | exact hW.2.2.2.2
    have J5 := hJ.all 5 h5
    simp only [AwG] at J5
    simp [fillFrom, Act.put]
    generalize hg5 : g 5 = y5
    rw [hg5] at J5
    obtain ⟨b, c, rfl, H4⟩ := J5
    have HJ := hid hJ
    clear hJ hd hW h5
    clear H4
    go_wp2
    first | exact ⟨_, rfl, HJ.out.here (fun i v w w' h hb => AwG_below h hb) rfl⟩ | exact ⟨rfl, _, HJ.out.here (fun i v w w' h hb => AwG_below h hb) rfl⟩ | exact HJ.out.here (fun i v w w' h hb => AwG_below h hb) rfl
   ·have h6 : d 6 = true := by first | exact hW | exact hW.1 | exact hW.2 | exact hW.2.1 | exact hW.2.2 | exact hW.2.2.1 | exact hW.2.2.2 | exact hW.2.2.2.1 | exact hW.2.2.2.2
    have J6 := hJ.all 6 h6
    simp only [AwG] at J6
    simp [fillFrom, Act.put]
    generalize hg6 : g 6 = y6
    rw [hg6] at J6
    obtain ⟨b, c, rfl, H4⟩ := J6
    have HJ := hid hJ
    clear hJ hd hW h6
    have K := hid H4
    clear H4
    go_wp2
    first | exact ⟨_, rfl, HJ.out.here (fun i v w w' h hb => AwG_below h hb) ⟨_, _, rfl, K.out⟩⟩ | exact ⟨rfl, _, HJ.out.here (fun i v w w' h hb => AwG_below h hb) ⟨_, _, rfl, K.out⟩⟩ | exact HJ.out.here (fun i v w w' h hb => AwG_below h hb) ⟨_, _, rfl, K.out⟩
   ·have h7 : d 7 = true := by first | exact hW | exact hW.1 | exact hW.2 | exact hW.2.1 | exact hW.2.2 | exact hW.2.2.1 | exact hW.2.2.2 | exact hW.2.2.2.1 | exact hW.2.2.2.2
    have J7 := hJ.all 7 h7
    simp only [AwG] at J7
    simp [fillFrom, Act.put]
    generalize hg7 : g 7 = y7
    rw [hg7] at J7
    obtain rfl := J7
    have HJ := hid hJ
    clear hJ hd hW h7
    go_wp2
    first | exact ⟨_, rfl, HJ.out.here (fun i v w w' h hb => AwG_below h hb) rfl⟩ | exact ⟨rfl, _, HJ.out.here (fun i v w w' h hb => AwG_below h hb) rfl⟩ | exact HJ.out.here (fun i v w w' h hb => AwG_below h hb) rfl
  ·intro d g W hA hJ
   have J8 := hJ.all 8 (hA 8 (by decide))
   have J9 := hJ.all 9 (hA 9 (by decide))
   simp only [AwG] at J8 J9
   simp [fillFrom, Act.put]
   generalize hg8 : g 8 = y8
   rw [hg8] at J8
   generalize hg9 : g 9 = y9
   rw [hg9] at J9
   obtain rfl := J9
   obtain ⟨a4, c4, rfl, J8⟩ := J8
   have HVb := hid J8
   have HRb := hid hJ.be
   clear hJ J8 hA hg8 hg9
   obtain ⟨W3, hW3⟩ : ∃ W3 : World, W3 = W := ⟨_, rfl⟩
   subst hW3
   have hZ := rats1_alloc (w := W3) (p := ⟨false, [], []⟩) (an := none) (ad := none) (cn := 0) (cd := 0) (Nat.le_refl _) (Nat.le_refl _) (U32s.nil _ _) (U32s.nil _ _) 37
   simp only [List.length_nil] at hZ
   have hal : Below W3.heap.size W3 (W3.alloc (zerO 37)) := (Below.refl _ _).alloc (Nat.le_refl _) _
   have hy := (HVa.out.below HRb.out).below hal
   have hC := r12Rats c2 1 hy hZ
   rw [show decide ([ratL 0] = [(⟨false, [], []⟩ : RatL)]) = true from decide_eq_true (by rw [ratL_zeroE])] at hC
   have HC := hid hC
   have HB3 := hid (HBe.out.trans ((HRa.out.trans (HRb.out.mono HRa.out.size)).mono HBe.out.size))
   have HB4 := hid (HB3.out.trans (hal.mono HB3.out.size))
   have HVc := hid (HVb.out.below hal)
   clear hZ hal hy hC
   go_wp2_with fail
   refine HC.out.mono ?_
   rintro e w5 ⟨rfl, hb5⟩
   have HB5 := hid (HB4.out.trans (hb5.mono HB4.out.size))
   have HVd := hid (HVc.out.below hb5)
   clear hb5 HC
   go_wp2_with fail
   refine (hOf2 w5).mono ?_
   rintro e w6 ⟨v6, rfl, kv, kb⟩
   obtain ⟨r, hr⟩ : ∃ r, r = ratL 2 := ⟨_, rfl⟩
   have hVe := HVd.out.below kb
   rw [<- hr] at kv hVe
   obtain ⟨an, ad, cn, cd, rfl, j2, j3, j4, j5⟩ := kv.ex
   have hZ := rats1_alloc j2 j3 j4 j5 37
   have hal : Below w6.heap.size w6 (w6.alloc (ratO r an cn ad cd 37)) := (Below.refl _ _).alloc (Nat.le_refl _) _
   have hC := r12Rats c4 1 (hVe.below hal) hZ
   rw [show decide ([r] = [r]) = true from decide_eq_true rfl] at hC
   have HC := hid hC
   have HB6 := hid ((HB5.out.trans (kb.mono HB5.out.size)).trans (hal.mono (HB5.out.trans (kb.mono HB5.out.size)).size))
   clear kv kb hVe j4 j5 hZ hal hC hr
   go_wp2_with fail
   refine HC.out.mono ?_
   rintro e w7 ⟨rfl, hb7⟩
   have HB7 := hid (HB6.out.trans (hb7.mono HB6.out.size))
   clear hb7 HC
   go_wp2
   go_ret
   exact ⟨rfl, HB7.out⟩
theorem lawTrace {w : World} {m : ModL} {L : List RatL} {a1 a2 ax : Option Addr} (c1 c2 cx : Nat) (h1 : Ints w Any a1 m.input) (h2 : LaysAt w a2 m.layers) (hcap : LCap w a2 m.layers) (hr : ∀ l ∈ m.layers, LayRange l) (hs : ∀ l ∈ m.layers, LayLe l) (hX : RatsAt w ax L) (hL : ∀ x ∈ L, RatLe x 1048576) :
  Calls Tryz.prog 3 #[.agg #[.slice a1 m.input.length c1, .slice a2 m.layers.length c2], .slice ax L.length cx] w fun e w' => e = .returned (.bool true) /\ Below w.heap.size w w' := by
 have q1 := h1.len
 have q2 := h2.len
 have q3 := hX.len
 have H1 := hid h1
 have H2 := hid h2
 have HCap := hid hcap
 have HRg := hid hr
 have HSh := hid hs
 have HX0 := hid hX
 have HL := hid hL
 have hbA : Below w.heap.size w (w.alloc (.cells #[.slice a1 m.input.length c1, .slice a2 m.layers.length c2] 25)) := (Below.refl _ _).alloc (Nat.le_refl _) _
 have hx := Box2.alloc w (.slice a1 m.input.length c1) (.slice a2 m.layers.length c2) 25
 clear h1 h2 hr hs hX hL hcap
 go_enter Tryz.func3, Tryz.ntmps3
 go_upto_region 1 with fail
 generalize w.alloc (.cells #[.slice a1 m.input.length c1, .slice a2 m.layers.length c2] 25) = W at *
 have HB := hid hbA
 have HX := hid hx
 clear hbA hx
 go_wp2_with fail
 refine (awake14 W).mono ?_
 rintro e w1 ⟨rfl, hb1⟩
 have HB1 := hid (HB.out.trans (hb1.mono HB.out.size))
 have HX1 := hid (HX.out.below hb1)
 obtain ⟨x0, x1, xf, xlt⟩ := HX1.out
 have HF := hid (kFair14 c1 c2 cx (H1.out.below HB1.out) (H2.out.below HB1.out) (HX0.out.below HB1.out) HSh.out HL.out)
 clear hb1 HX
 cases hf : fairE m L with
 | false =>
  rw [hf] at HF
  clear hf
  go_wp2_with fail
  refine HF.out.mono ?_
  rintro e w2 ⟨rfl, hb2⟩
  have HB2 := hid (HB1.out.trans (hb2.mono HB1.out.size))
  clear hb2 x0 x1 xf xlt
  go_wp2_with fail
  refine (awake14 w2).mono ?_
  rintro e w3 ⟨rfl, hb3⟩
  have HB3 := hid (HB2.out.trans (hb3.mono HB2.out.size))
  clear hb3
  go_wp2
  go_ret
  exact ⟨rfl, HB3.out⟩
 | true =>
  rw [hf] at HF
  have HP := hid (fair_paid hf)
  clear hf
  go_wp2_with fail
  refine HF.out.mono ?_
  rintro e w2 ⟨rfl, hb2⟩
  have HB2 := hid (HB1.out.trans (hb2.mono HB1.out.size))
  have HX2 := hid (HX1.out.below hb2)
  clear hb2 x0 x1 xf xlt HF
  obtain ⟨x0, x1, xf, xlt⟩ := HX2.out
  obtain ⟨D, hD, hB, hR⟩ := HP.out.room
  have hl8 := HP.out.lens
  have hxb : ∀ W, Below w.heap.size w W -> RatsAt W ax ((L.map ratOf).map ratL) := fun W hb => by rw [<- HP.out.back]; exact HX0.out.below hb
  have hE := evTrace (x := L.map ratOf) c1 c2 cx (H1.out.below HB2.out) (H2.out.below HB2.out) HRg.out HSh.out (hxb _ HB2.out) HP.out.sm hB hD (by omega) (by omega) hR
  rw [List.length_map] at hE
  have HE := hid hE
  have HRo := hid (And.intro hD (And.intro hB hR))
  have HXb := hid hxb
  clear hE hD hB hR hxb
  obtain ⟨TT, hTT⟩ : ∃ TT, TT = traceL m (L.map ratOf) := ⟨_, rfl⟩
  rw [<- hTT] at HE
  go_wp2_with fail
  refine HE.out.mono ?_
  rintro e w3 ⟨b3, d3, rfl, hc3, hT3, hb3⟩
  have HB3 := hid (HB2.out.trans (hb3.mono HB2.out.size))
  have HX3 := hid (HX2.out.below hb3)
  have HT3 := hid hT3
  have hE := r14Trace (x := L.map ratOf) c1 c2 cx (H1.out.below HB3.out) (H2.out.below HB3.out) (HCap.out.below H2.out HB3.out) HRg.out HSh.out (HXb.out _ HB3.out) HP.out.sm HRo.out.2.1 HRo.out.1 (by omega) (by omega) HRo.out.2.2
  rw [List.length_map, <- hTT] at hE
  have HE2 := hid hE
  obtain ⟨nT, hnT⟩ : ∃ nT, nT = TT.1.length := ⟨_, rfl⟩
  generalize her : TT.2 = er at *
  rw [<- hnT] at hc3 ⊢
  have HNT := hid hnT
  have HEr := hid her
  clear hb3 hT3 hE HE hTT x0 x1 xf xlt hnT her
  obtain ⟨x0, x1, xf, xlt⟩ := HX3.out
  go_wp2_with fail
  refine HE2.out.mono ?_
  rintro e w4 ⟨b4, d4, rfl, hc4, hT4, hb4⟩
  have HB4 := hid (HB3.out.trans (hb4.mono HB3.out.size))
  have hC := r14Same d3 d4 (HT3.out.below hb4) hT4
  rw [show decide (TT.1 = TT.1) = true from decide_eq_true rfl, <- HNT.out] at hC
  rw [HEr.out, <- HNT.out]
  have HC := hid hC
  have t1 : (er == er) = true := by simp
  clear hb4 hT4 hC HE2 hc4 x0 x1 xf xlt
  go_wp2_with fail
  refine HC.out.mono ?_
  rintro e w5 ⟨rfl, hb5⟩
  have HB5 := hid (HB4.out.trans (hb5.mono HB4.out.size))
  clear hb5
  go_wp2
  go_ret
  exact ⟨rfl, HB5.out⟩
end Go.Proofs.YtoppijdedkdjeaaGreat

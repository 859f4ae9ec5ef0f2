/-
  Tiles of a matrix that has none: the reference's, the iterator.
-/
import Derived.Test.YtcgpidicegbnoaaColG
namespace Go.Proofs.Ytcgpidicegbnoaa
open Go.RowKit Go.Shelf
attribute [local go_sem] Oper.semAt_some

set_option maxHeartbeats 800000 in
theorem rTilesNone (rows cols h wd : Int) (hn : rows < 1 ∨ cols < 1 ∨ h < 1 ∨ wd < 1) (w : World) :
    Calls Try.prog 37 #[.int .i64 rows, .int .i64 cols, .int .i64 h, .int .i64 wd] w fun e w' => e = .returned (.slice none 0 0) ∧ w' = w := by
  by_cases h1 : rows < 1
  · go_enter Try.func37, Try.ntmps37
    go_wp2
    go_ret
    exact ⟨rfl, rfl⟩
  by_cases h2 : cols < 1
  · go_enter Try.func37, Try.ntmps37
    go_wp2
    go_ret
    exact ⟨rfl, rfl⟩
  by_cases h3 : h < 1
  · go_enter Try.func37, Try.ntmps37
    go_wp2
    go_ret
    exact ⟨rfl, rfl⟩
  have h4 : wd < 1 := by omega
  go_enter Try.func37, Try.ntmps37
  go_wp2
  go_ret
  exact ⟨rfl, rfl⟩

set_option maxRecDepth 100000 in
set_option maxHeartbeats 1600000 in
theorem tilesIterNone (F : Fence) (n : Nat) (hF : F.fn 42) (hro : F.round = none) (b : Nat) (rows cols h wd : Int) (hnn : rows < 1 ∨ cols < 1 ∨ h < 1 ∨ wd < 1)
    (Cx : Nat → Array Value → World → Prop) (Pr : Nat → Prop) (hp0 : Pr b) (hp1 : Pr (b + 1)) (hp2 : Pr (b + 2)) (hp3 : Pr (b + 3)) (W0 : World)
    (c0 : W0.cell? ⟨b, 0, none⟩ = some (.int .i64 rows)) (c1 : W0.cell? ⟨b + 1, 0, none⟩ = some (.int .i64 cols)) (c2 : W0.cell? ⟨b + 2, 0, none⟩ = some (.int .i64 h)) (c3 : W0.cell? ⟨b + 3, 0, none⟩ = some (.int .i64 wd)) :
    IterOk F n Try.prog 42 #[.pointer (some ⟨b, 0, none⟩), .pointer (some ⟨b + 1, 0, none⟩), .pointer (some ⟨b + 2, 0, none⟩), .pointer (some ⟨b + 3, 0, none⟩)] 0 Cx Pr W0 := by
  intro l I Ix W hW hIb hIW hY h0
  have d0 := (hW.cell (p := ⟨b, 0, none⟩) hp0).trans c0
  have d1 := (hW.cell (p := ⟨b + 1, 0, none⟩) hp1).trans c1
  have d2 := (hW.cell (p := ⟨b + 2, 0, none⟩) hp2).trans c2
  have d3 := (hW.cell (p := ⟨b + 3, 0, none⟩) hp3).trans c3
  have H0 := Lib.hid h0
  clear hY hIb hIW c0 c1 c2 c3 hW h0
  by_cases h1 : rows < 1
  · refine callsIn_of_wp Try.func42 rfl hF ?_ hro
    simp only [Try.ntmps42, List.size_toArray, List.length_cons, List.length_nil, Nat.reduceAdd, Nat.reduceSub, Array.replicate_succ, Array.replicate_zero, List.push_toArray, List.append_toArray, List.nil_append, List.cons_append]
    gi_wp2
    refine bodyPost_ret (results_none rfl _ _ _) rfl ?_
    exact ⟨⟨_, rfl⟩, .inl H0.out⟩
  by_cases h2 : cols < 1
  · refine callsIn_of_wp Try.func42 rfl hF ?_ hro
    simp only [Try.ntmps42, List.size_toArray, List.length_cons, List.length_nil, Nat.reduceAdd, Nat.reduceSub, Array.replicate_succ, Array.replicate_zero, List.push_toArray, List.append_toArray, List.nil_append, List.cons_append]
    gi_wp2
    refine bodyPost_ret (results_none rfl _ _ _) rfl ?_
    exact ⟨⟨_, rfl⟩, .inl H0.out⟩
  by_cases h3 : h < 1
  · refine callsIn_of_wp Try.func42 rfl hF ?_ hro
    simp only [Try.ntmps42, List.size_toArray, List.length_cons, List.length_nil, Nat.reduceAdd, Nat.reduceSub, Array.replicate_succ, Array.replicate_zero, List.push_toArray, List.append_toArray, List.nil_append, List.cons_append]
    gi_wp2
    refine bodyPost_ret (results_none rfl _ _ _) rfl ?_
    exact ⟨⟨_, rfl⟩, .inl H0.out⟩
  have h4 : wd < 1 := by omega
  refine callsIn_of_wp Try.func42 rfl hF ?_ hro
  simp only [Try.ntmps42, List.size_toArray, List.length_cons, List.length_nil, Nat.reduceAdd, Nat.reduceSub, Array.replicate_succ, Array.replicate_zero, List.push_toArray, List.append_toArray, List.nil_append, List.cons_append]
  gi_wp2
  refine bodyPost_ret (results_none rfl _ _ _) rfl ?_
  exact ⟨⟨_, rfl⟩, .inl H0.out⟩

end Go.Proofs.Ytcgpidicegbnoaa

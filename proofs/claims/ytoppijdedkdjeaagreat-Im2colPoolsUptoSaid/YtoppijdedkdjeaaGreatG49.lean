/-
  Contracts of the functions that the statement reaches: LwZ.
-/
import Derived.Test.YtoppijdedkdjeaaGreatG47
import Derived.Test.YtoppijdedkdjeaaGreatG48
set_option linter.unusedVariables false
set_option linter.unusedSimpArgs false
set_option linter.constructorNameAsVariable false
set_option linter.deprecated false
set_option maxRecDepth 100000
set_option maxHeartbeats 3200000
namespace Go.Proofs.YtoppijdedkdjeaaGreat
open Go.RowKit
open Go.Lib (hid)
theorem lawPools {w : World} {m : ModL} {L : List RatL} {a1 a2 ax : Option Addr} (c1 c2 cx : Nat) (h1 : Ints w Any a1 m.input) (h2 : LaysAt w a2 m.layers) (hr : ∀ l ∈ m.layers, LayRange l) (hs : ∀ l ∈ m.layers, LayLe l)
  (hX : RatsAt w ax L) (hL : ∀ x ∈ L, RatLe x 1048576) :
  Calls Tryz.prog 10 #[.agg #[.slice a1 m.input.length c1, .slice a2 m.layers.length c2], .slice ax L.length cx] w fun e w' => e = .returned (.bool true) /\ Below w.heap.size w w' := by
 by_cases h3 : ∃ l, m.layers = [l] /\ l.kind = 3
 ·obtain ⟨l, hm, hk⟩ := h3
  exact lawPools3 c1 c2 cx h1 h2 hr hs hX hL hm hk
 ·by_cases h4 : ∃ l, m.layers = [l] /\ l.kind = 4
  ·obtain ⟨l, hm, hk⟩ := h4
   exact lawPools4 c1 c2 cx h1 h2 hr hs hX hL hm hk
  ·exact lawPools0 c1 c2 cx h1 h2 hr hs hX hL (fun l hm => ⟨fun hk => h3 ⟨l, hm, hk⟩, fun hk => h4 ⟨l, hm, hk⟩⟩)
end Go.Proofs.YtoppijdedkdjeaaGreat

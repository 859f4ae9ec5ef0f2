/-
  Two small lemmas for texts of the claim: a new block leaves what was there; what is hidden goes on.
-/
import Derived.Below
import Derived.Lib.Hide
namespace Go.Proofs.YtfgmmghmmfmdgaaGreat
open Go.RowKit
open Go.Lib (hid)
theorem blA (w:World) (o:Obj):Below w.heap.size w (w.alloc o):=(Below.refl _ _).alloc (Nat.le_refl _) _
theorem htr {w w1 w2:World} (h:Hid (Below w.heap.size w w1)) (k:Below w1.heap.size w1 w2):Hid (Below w.heap.size w w2):=hid (h.out.trans (k.mono h.out.size))
theorem hd2 {a b:Prop} (x:a) (y:b):Hid a/\Hid b:=⟨hid x,hid y⟩
theorem hd3 {a b c:Prop} (x:a) (y:b) (z:c):Hid a/\Hid b/\Hid c:=⟨hid x,hid y,hid z⟩
theorem hd4 {a b c d:Prop} (x:a) (y:b) (z:c) (u:d):Hid a/\Hid b/\Hid c/\Hid d:=⟨hid x,hid y,hid z,hid u⟩
theorem hd5 {a b c d e:Prop} (x:a) (y:b) (z:c) (u:d) (v:e):Hid a/\Hid b/\Hid c/\Hid d/\Hid e:=⟨hid x,hid y,hid z,hid u,hid v⟩
theorem hd6 {a b c d e f:Prop} (x:a) (y:b) (z:c) (u:d) (v:e) (w:f):Hid a/\Hid b/\Hid c/\Hid d/\Hid e/\Hid f:=⟨hid x,hid y,hid z,hid u,hid v,hid w⟩
theorem mkAt {a b:Prop} (x:a) (y:b):a/\b:=⟨x,y⟩
end Go.Proofs.YtfgmmghmmfmdgaaGreat

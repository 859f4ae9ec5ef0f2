/-
  Contracts of the functions that the statement reaches: Open, OpenN.
-/
import Derived.Test.YtfgmmghmmfmdgaaGreatX1
import Derived.Deep.Slices
import Derived.Deep.Fields
import Derived.ChangeSame
import Derived.Lib.SmallJoins
import Derived.SizedLaws
import Derived.ProofKit
import Derived.OpenShut
import Derived.ShutString
import Derived.ChangeOld
set_option linter.all false
set_option maxRecDepth 100000
set_option maxHeartbeats 3200000
namespace Go.Proofs.YtfgmmghmmfmdgaaGreat
open Go.RowKit Go.ChangeShapes Go.WideShapes Go.ChangeAt Go.Deep
open Go.Lib (hid)
section
variable {H:Type} {enc:TypeId × Value->H} {P:Program} {w:World} {base:Nat} {spare:Nat->Bool} {held:Bool}
theorem open_fields {t:TypeId} {fs:Array Field} {fuel:Nat} {cs:List Value} {x:DataW H × List MemPlace} (hs:P.underlying t=some (.struct fs)) (hone:oneCellFields P fs=true) (hC:P.cellsOf t=fs.size)
  (h:DataW.trod enc P w base spare held fuel t cs=some x):
  ∃ (ys:List (DataW H × List MemPlace)) (n:Nat),cs.length=fs.size/\ys.length=fs.size/\x.1=.agg (ys.map (·.1))/\
   ∀ (j:Nat) (f:Field),fs[j]? =some f->∃ c y,cs[j]? =some c/\ys[j]? =some y/\DataW.trod enc P w base spare held n f.type [c]=some y:=by
 obtain ⟨ys,n,_,hx,hcl,hyl,hf⟩:=DataW.trod_struct hs h
 refine ⟨ys,n,hcl.trans hC,hyl,by rw [hx],fun j f hj=>?_⟩
 obtain ⟨ho,hk⟩:=hone_of hone j f hj;have hjl:j < fs.size:=(Array.getElem?_eq_some_iff.1 hj).1;have hjc:j < cs.length:=by omega
 have h1:=hf j f hj;rw [ho,hk] at h1;have e:(cs.drop j).take 1=[cs[j]]:=by
  rw [List.drop_eq_getElem_cons hjc];rfl
 rw [e] at h1;have hys:ys[j]? =some ys[j]:=List.getElem?_eq_getElem (by omega);exact ⟨cs[j],ys[j],List.getElem?_eq_getElem hjc,hys,h1.trans hys⟩
end
section
variable {H:Type} {enc:TypeId × Value->H} {w:World} {base:Nat} {spare:Nat->Bool} {held:Bool}
end
end Go.Proofs.YtfgmmghmmfmdgaaGreat

/-
  Contracts of the functions that the statement reaches: ModH, LwB.
-/
import Derived.Test.YtfgmmghmmfmdgaaGreatK18
import Derived.Test.YtfgmmghmmfmdgaaGreatK25
set_option linter.all false
set_option maxRecDepth 100000
set_option maxHeartbeats 3200000
namespace Go.Proofs.YtfgmmghmmfmdgaaGreat
open Go.RowKit
open Go.Lib (hid)
structure PlaceV (w:World) (v:Value) (input:List Int) (S:List (List Int)):Prop where
 ex:∃ (a b:Option Addr) (c d:Nat),v=.agg #[.slice a input.length c,.slice b S.length d]/\Ints w Any a input/\Intss w Any b S
theorem PlaceV.below {w w':World} {v:Value} {input:List Int} {S:List (List Int)} (h:PlaceV w v input S) (hb:Below w.heap.size w w'):PlaceV w' v input S:=by
 obtain ⟨a,b,c,d,e,h1,h2⟩:=h.ex;exact ⟨a,b,c,d,e,h1.below hb,h2.below hb⟩
theorem currL_nil (input:List Int):currL input []=input:=rfl
theorem currL_last {input l:List Int} {S:List (List Int)} {k:Nat} (hk:S.length=k+1) (hl:S[k]? =some l):currL input S=l:=by
 unfold currL;rw [List.getLast?_eq_getElem?,hk,Nat.add_sub_cancel,hl];rfl
theorem pIn {w:World} {v:Value} {input:List Int} {S:List (List Int)} (h:PlaceV w v input S):∃ (a:Option Addr) (c:Nat),Ints w Any a (currL input S)/\∀ w',Below w.heap.size w w'->
  Calls Tryz.prog 126 #[v] w' fun e w''=>e=.returned (.slice a (currL input S).length c)/\Below w'.heap.size w' w'':=by
 obtain ⟨a,b,c,d,rfl,h1,h2⟩:=h.ex;have q1:=h1.len;have q2:=h2.len
 rcases Nat.eq_zero_or_pos S.length with h0 | h0
 ·obtain rfl:S=[]:=List.eq_nil_of_length_eq_zero h0
  refine ⟨a,c,h1,fun w' hb=>?_⟩
  rw [currL_nil];have hbA:=blA w' (.cells #[.slice a input.length c,.slice b 0 d] 122);have HB:=hid hbA;clear h1 h2 hb h0 h hbA
  go_enter Tryz.func126,Tryz.ntmps126
  go_wp2;go_ret;exact ⟨rfl,HB.out⟩
 ·obtain ⟨k,hk⟩:∃ k,S.length=k+1:=⟨S.length - 1,by omega⟩
  obtain ⟨bb,off,l,aj,cj,rfl,hcell,hl,hcj,hI,hbb,_⟩:=h2.pickc (k:=k) (by omega);have hcur:=currL_last (input:=input) hk hl;rw [hcur]
  refine ⟨aj,cj,hI,fun w' hb=>?_⟩
  have hc':=(hb.cell (p:=⟨bb,off+k,none⟩) hbb).trans hcell;have hbA:=blA w' (.cells #[.slice a input.length c,.slice (some ⟨bb,off,none⟩) S.length d] 122);have HB:=hid hbA;have ql:=hI.len;generalize hn:S.length=n at *;have e1:((n:Int) - 1)=(k:Int):=by omega
  have hlt:k < n:=by omega
  have hpos:0 < n:=by omega
  have HN:=hid hk;have hle:=Nat.lt_of_lt_of_le hbb hb.size;have hc2:=(hbA.cell (p:=⟨bb,off+k,none⟩) hle).trans hc';clear h h1 h2 hb hbA hcell hcur hl hI hn hk h0 hc' hbb
  go_enter Tryz.func126,Tryz.ntmps126
  go_wp2;go_ret;exact ⟨rfl,HB.out⟩
theorem sEqual {w:World} {F G:Nat->Prop} {a b:Option Addr} {l m:List Int} (c d:Nat) (h:Ints w F a l) (g:Ints w G b m):
  Calls Tryz.prog 152 #[.slice a l.length c,.slice b m.length d] w fun e w'=>e=.returned (.bool (sameL l m))/\Below w.heap.size w w':=by
 have hl:=h.len;have hm:=g.len
 by_cases h0:l.length=0
 ·obtain rfl:l=[]:=List.eq_nil_of_length_eq_zero h0
  refine (Tryz.slices_Equal_int_empty a b c m.length d w hm).mono ?_
  rintro e w' ⟨rfl,rfl⟩
  refine ⟨ret_bool ?_,Below.refl _ _⟩
  unfold sameL;cases m <;> simp
 ·by_cases hne:l.length=m.length
  ·rcases h.row with rfl | ⟨b1,o1,rfl,_,_,hc1⟩
   ·simp at h0
   rcases g.row with rfl | ⟨b2,o2,rfl,_,_,hc2⟩
   ·exact absurd hne h0
   refine (Tryz.slices_Equal_int b1 o1 l.length c b2 o2 m.length d l m w (Nat.le_refl _) (Nat.le_refl _) hl hm (fun j hj=>hc1 j _ (by rw [List.getD_eq_getElem?_getD,List.getElem?_eq_getElem hj];rfl)) (fun j hj=>hc2 j _ (by rw [List.getD_eq_getElem?_getD,List.getElem?_eq_getElem hj];rfl))).mono ?_
   rintro e w' ⟨rfl,q,rfl⟩
   refine ⟨ret_bool ?_,Below.drewN_refl _ _⟩
   rw [List.take_length,List.take_length];unfold sameL;rw [Bool.eq_iff_iff];simp
  ·refine (Tryz.slices_Equal_int_lens _ _ _ c _ d w hne).mono ?_
   rintro e w' ⟨rfl,rfl⟩;exact ⟨ret_bool (sameL_len hne).symm,Below.refl _ _⟩
theorem sClone {w:World} {F:Nat->Prop} {a:Option Addr} {l:List Int} (c:Nat) (h:Ints w F a l) (h1:1<=l.length) (h4:l.length<=4):
  Calls Tryz.prog 85 #[.slice a l.length c] w fun e w'=>(∃ a' c',e=.returned (.slice a' l.length c')/\Ints w' (fun b=>w.heap.size<=b) a' l/\l.length<=c')/\Below w.heap.size w w':=by
 rcases h.row with rfl | ⟨b1,o1,rfl,_,_,hc1⟩
 ·simp at h1
 refine (Tryz.slices_Clone_int b1 o1 l.length c l w (Nat.le_refl _) (by omega) (fun j hj=>hc1 j _ (by rw [List.getD_eq_getElem?_getD,List.getElem?_eq_getElem hj];rfl))).mono ?_
 rintro e w' ⟨v',rfl,hown,_,hb⟩
 refine ⟨?_,hb⟩
 rw [List.take_length] at hown
 rcases hown.2 with ⟨_,hn⟩ | ⟨g,cap,cur,rfl,hbl,hg,hnc,_⟩
 ·omega
 ·refine ⟨_,cap,rfl,⟨h.wf,h.len,.inr ⟨g,0,rfl,hbl,(Array.getElem?_eq_some_iff.1 hg).1,fun j d hj=>?_⟩⟩,hnc⟩
  have:=hown.cells (g:=g) rfl j (.int .i64 d) (by rw [List.getElem?_map,hj];rfl)
  simpa [Addr.add_lit] using this
end Go.Proofs.YtfgmmghmmfmdgaaGreat

/-
  Contracts of the functions that the statement reaches: LitB, SlotsD, ModB.
-/
import Derived.Test.YtfgmmghmmfmdgaaGreatK7
import Derived.Test.YtfgmmghmmfmdgaaGreatK13
set_option linter.all false
set_option maxRecDepth 100000
set_option maxHeartbeats 3200000
namespace Go.Proofs.YtfgmmghmmfmdgaaGreat
open Go.RowKit
open Go.Lib (hid)
structure From (B:Nat) (W0 w:World):Prop where
 base:B<=w.heap.size
 be:Below B W0 w
theorem From.start {B:Nat} {W0:World} (h:B<=W0.heap.size):From B W0 W0.drew:=⟨h,(Below.refl _ _).drew⟩
theorem outSL_cases (input:List Int) (S:List (List Int)) (l:LayL):
  ((outSL input S l).2=1/\(outSL input S l).1=[]/\((validL input && (decide (S.length+1<=64) && layOK l S.length)) && S.all validL)=false) ∨
  ((((validL input && (decide (S.length + 1 <= 64) && layOK l S.length)) && S.all validL) = true) /\ ((outSL input S l).2 = 7 /\ (outSL input S l).1 = [] /\ ((rawL input S l).2 && validL (rawL input S l).1) = false ∨
    (outSL input S l).2=0/\(outSL input S l).1=(rawL input S l).1/\(rawL input S l).2=true/\validL (rawL input S l).1=true)):=by
 unfold outSL
 cases h:((validL input && (decide (S.length+1<=64) && layOK l S.length)) && S.all validL) with
 | false=>exact .inl ⟨rfl,rfl,rfl⟩
 | true=>
  refine .inr ⟨rfl,?_⟩
  cases h2:((rawL input S l).2 && validL (rawL input S l).1) with
  | false=>exact .inl ⟨rfl,rfl,rfl⟩
  | true=>
   rw [Bool.and_eq_true] at h2;exact .inr ⟨rfl,rfl,h2.1,h2.2⟩
theorem outSL_valid {input:List Int} {S:List (List Int)} {l:LayL} (h:(outSL input S l).2=0):validL (outSL input S l).1=true:=by
 rcases outSL_cases input S l with ⟨h1,_,_⟩ | ⟨_,⟨h1,_,_⟩ | ⟨_,h2,_,h3⟩⟩
 ·omega
 ·omega
 ·rw [h2];exact h3
theorem outSL_seven {input:List Int} {S:List (List Int)} {l:LayL} (h1:validL input=true) (h2:S.length+1<=64) (h3:layOK l S.length=true) (h4:S.all validL=true) (h:(outSL input S l).2 ≠ 0):(outSL input S l).2=7:=by
 rcases outSL_cases input S l with ⟨_,_,k⟩ | ⟨_,⟨k,_,_⟩ | ⟨k,_,_,_⟩⟩
 ·rw [h1,h3,h4,decide_eq_true h2] at k;cases k
 ·exact k
 ·exact absurd k h
theorem shapesFrom_cons (input:List Int) (S:List (List Int)) (l:LayL) (r:List LayL):
  shapesFrom input S (l::r)=if (outSL input S l).2=0 then shapesFrom input (S++[(outSL input S l).1]) r else ([],S.length,(outSL input S l).2):=by
 rw [shapesFrom]
def Chain (input:List Int) (S T:List (List Int)) (L:List LayL):Prop:=
 T.length=L.length/\∀ (j:Nat) (s:List Int) (l:LayL),T[j]? =some s->L[j]? =some l->outSL input (S++T.take j) l=(s,0)
theorem shapesFrom_chain {input:List Int}:∀ (L:List LayL) (S:List (List Int)),(∃ T,Chain input S T L/\shapesFrom input S L=(S++T,0,0)) ∨ ((shapesFrom input S L).2.2 ≠ 0/\(shapesFrom input S L).1=[]):=by
 intro L
 induction L with
 | nil=>intro S;exact .inl ⟨[],⟨rfl,by simp⟩,by simp [shapesFrom]⟩
 | cons l r ih=>
  intro S;rw [shapesFrom_cons]
  by_cases h:(outSL input S l).2=0
  ·rw [if_pos h]
   rcases ih (S++[(outSL input S l).1]) with ⟨T,⟨h1,h2⟩,h3⟩ | h1
   ·refine .inl ⟨(outSL input S l).1::T,⟨by simp [h1],fun j s l' hs hl=>?_⟩,by rw [h3,List.append_assoc];rfl⟩
    cases j with
    | zero=>
     simp at hs hl;subst hs hl;rw [List.take_zero,List.append_nil, <- h]
    | succ j=>
     have:=h2 j s l' (by simpa using hs) (by simpa using hl);rw [List.append_assoc] at this;rw [List.take_succ_cons];exact this
   ·exact .inr h1
  ·rw [if_neg h];exact .inr ⟨h,rfl⟩
theorem Chain.valid {input:List Int} {T:List (List Int)} {L:List LayL} (h:Chain input [] T L):T.all validL=true:=by
 rw [List.all_eq_true];intro s hs;obtain ⟨j,hj⟩:=List.getElem?_of_mem hs;have hlt:=(List.getElem?_eq_some_iff.1 hj).1;obtain ⟨l,hl⟩:∃ l,L[j]? =some l:=⟨L[j]'(by rw [<- h.1];exact hlt),List.getElem?_eq_getElem _⟩
 have:=h.2 j s l hj hl;have h2:=outSL_valid (input:=input) (S:=[]++T.take j) (l:=l) (by rw [this]);rw [this] at h2;exact h2
theorem shapesFrom_seven {input:List Int} (hi:validL input=true):∀ (L:List LayL) (S:List (List Int)),S.all validL=true->S.length+L.length<=64->laysFrom L S.length=true->(shapesFrom input S L).2.2=0 ∨ (shapesFrom input S L).2.2=7:=by
 intro L
 induction L with
 | nil=>intro S _ _ _;exact .inl rfl
 | cons l r ih=>
  intro S hS hl hok;unfold laysFrom at hok;rw [Bool.and_eq_true] at hok;rw [shapesFrom_cons]
  by_cases h:(outSL input S l).2=0
  ·rw [if_pos h]
   refine ih _ ?_ ?_ ?_
   ·rw [List.all_append,hS,List.all_cons,List.all_nil,outSL_valid h];rfl
   ·simp at hl ⊢;omega
   ·rw [List.length_append];simpa using hok.2
  ·rw [if_neg h];exact .inr (outSL_seven hi (by simp at hl;omega) hok.1 hS h)
theorem shapesL_cases (m:ModL):(validM m=false/\shapesL m=([],0,1)) ∨ (validM m=true/\((∃ T,Chain m.input [] T m.layers/\shapesL m=(T,0,0)) ∨ ((shapesL m).2.2=7/\(shapesL m).1=[]))):=by
 unfold shapesL
 cases h:validM m with
 | false=>exact .inl ⟨rfl,rfl⟩
 | true=>
  refine .inr ⟨rfl,?_⟩
  rw [if_pos rfl];have hv:=h;unfold validM at hv;simp only [Bool.and_eq_true,decide_eq_true_eq] at hv
  rcases shapesFrom_chain (input:=m.input) m.layers [] with ⟨T,h1,h2⟩ | ⟨h1,h2⟩
  ·exact .inl ⟨T,h1,by simpa using h2⟩
  ·exact .inr ⟨(shapesFrom_seven hv.1 m.layers [] rfl (by simpa using hv.2.1) (by simpa using hv.2.2)).resolve_left h1,h2⟩
theorem validL_size {s:List Int} (h:validL s=true):1<=sizeL s/\sizeL s<=16384:=by
 have key:∀ (l:List Int) (p:Int),1<=p->p<=16384->validFrom l p=true->1<=prodFrom l p/\prodFrom l p<=16384:=by
  intro l
  induction l with
  | nil=>intro p h1 h2 _;exact ⟨h1,h2⟩
  | cons d r ih=>
   intro p h1 h2 h;simp only [validFrom] at h
   split at h
   ·cases h
   ·rename_i hc
    have:=mul_bd11 h1 h2 (d:=d) (by omega) (by omega);exact ih _ this.1 (by omega) h
 unfold sizeL;rw [if_pos h];exact key s 1 (by omega) (by omega) (by have:=validL_from h;simpa using this)
theorem sizeL_one {n:Int} (h1:1<=n) (h2:n<=16384):validL [n]=true/\sizeL [n]=n:=by
 have h:validL [n]=true:=by
  unfold validL validFrom;rw [if_neg (by omega)];simp [validFrom]
 exact ⟨h,by unfold sizeL;rw [if_pos h];simp [prodFrom]⟩
theorem outSL_keeps {input:List Int} {S:List (List Int)} {l:LayL} (h:(outSL input S l).2=0) (hk:5<=l.kind):sizeL (outSL input S l).1=sizeL (currL input S):=by
 rcases outSL_cases input S l with ⟨h1,_,_⟩ | ⟨hc,⟨h1,_,_⟩ | ⟨_,h2,_,h3⟩⟩
 ·omega
 ·omega
 ·rw [h2];rw [h2] at *;have hv:validL (currL input S)=true:=by
   simp only [Bool.and_eq_true] at hc;unfold currL
   cases hg:S.getLast? with
   | none=>exact hc.1.1
   | some s=>
    have:=List.mem_of_getLast? hg;exact List.all_eq_true.1 hc.2 s this
  unfold rawL;rw [if_neg (by omega),if_neg (by omega),if_neg (by omega)]
  by_cases k6:l.kind=6
  ·rw [if_pos k6];have:=validL_size hv;exact (sizeL_one this.1 this.2).2
  ·rw [if_neg k6]
   split <;> rfl
end Go.Proofs.YtfgmmghmmfmdgaaGreat

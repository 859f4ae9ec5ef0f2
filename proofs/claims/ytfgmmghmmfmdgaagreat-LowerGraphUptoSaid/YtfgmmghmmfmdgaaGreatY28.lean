/-
  Contracts: RkA, RkB, RkC, RkD, RkE, RkF, RkG, RkH, RkI, RkJ, RkK, RkL, RhA.
-/
import Derived.Test.YtfgmmghmmfmdgaaGreatY27
import Derived.Test.YtfgmmghmmfmdgaaGreatY0
set_option linter.all false
set_option maxRecDepth 100000
set_option maxHeartbeats 3200000
namespace Go.Proofs.YtfgmmghmmfmdgaaGreat
open Go.RowKit
open Go.Lib (hid)
theorem Oy{P:Prop}(h:P:=by simp only[zbd,Region.binds,Zj,Ze,Zi,GP,SP.val,SP.frm,SP.rat,SP.tru,SP.tup,SP.grv,SP.onf,Zc,Zb]at hL;simp[zg,Act.put];generalize y' 1=y1 at hL⊢;exact IM):P:=h
theorem Oz{P:Prop}(h:P:=by simp only[zbd,Region.binds,Zj,Ze,Zi,GP,SP.val,SP.frm,SP.rat,SP.tru,SP.tup,SP.grv,SP.onf,Zc,Zb]at hL;simp[zg,Act.put];generalize y' 4=y4 at hL⊢;exact IM):P:=h
theorem O0{P:Prop}(h:P:=by simp only[zbd,Region.binds,Zj,Ze,Zi,GP,SP.val,SP.frm,SP.rat,SP.tru,SP.tup,SP.grv,SP.onf,Zc,Zb]at hL;simp[zg,Act.put];generalize y' 6=y6 at hL⊢;exact IM):P:=h
theorem O3{P:Prop}(h:P:=by simp only[zbd,Region.binds,Zj,Ze,Zi,GP,SP.val,SP.frm,SP.rat,SP.tru,SP.tup,SP.grv,Zc,Zb]at hL;simp[zg,Act.put];generalize y' 4=y4 at hL⊢;exact IM):P:=h
theorem O4{P:Prop}(h:P:=by simp only[zbd,Region.binds,Zj,Ze,Zi,GP,SP.val,SP.frm,SP.rat,SP.tru,SP.tup,SP.grv,Zc,Zb]at hL;simp[zg,Act.put];generalize y' 6=y6 at hL⊢;exact IM):P:=h
theorem O7{P:Prop}(h:P:=by simp[zg,Act.put];generalize y' 8=y8 at hL⊢;generalize y' 9=y9 at hL⊢;exact IY):P:=h
theorem IF{P:Prop}(h:P:=by simp only[zbd,Region.binds,Zj,Ze,Zi,GP,SP.val,SP.frm,SP.rat,SP.tru,SP.tup,SP.grv,Zc,Zb]at hL;simp[zg,Act.put];clear hL;exact Uf):P:=h
theorem IM{P:Prop}(h:P:=by obtain⟨rfl,_⟩:=hL;exact Uf):P:=h
theorem IV{P:Prop}(h:P:=by simp only[zbd,Region.binds,Zj,Ze,Zi,GP,SP.val,SP.frm,SP.rat,SP.tru,SP.tup,SP.grv,SP.onf,Zc,Zb]at hL;simp[zg,Act.put];generalize y' 2=y2 at hL⊢;generalize y' 3=y3 at hL⊢;obtain⟨rfl,rfl,_⟩:=hL;exact Uf):P:=h
theorem IY{P:Prop}(h:P:=by obtain⟨rfl,rfl,_⟩:=hL;exact Uf):P:=h
theorem IZ{P:Prop}(h:P:=by simp only[zbd,Region.binds,Zj,Ze,Zi,GP,SP.val,SP.frm,SP.rat,SP.tru,SP.tup,SP.grv,SP.onf,Zc,Zb]at hL;simp[zg,Act.put];clear hL;exact Uf):P:=h
theorem Oa{P:Prop}(h:P:=by simp[zg,Act.put];obtain⟨HJ,HV,HP,HBe,HD⟩:=hd5 hJ hV hp hBe hdeps;clear hdeps hJ hV hp hBe hd hW;exact UM):P:=h
theorem Od{P:Prop}(h:P:=by obtain⟨rfl,rfl,rfl,rfl,_⟩:=hL;have HR:=hid hR;clear hR;have HCt:=hid (HSum.out X HR.out.be);exact Uh):P:=h
theorem UM{P:Prop}(h:P:=by
 go_wp2
 first|refine⟨_,rfl,?_⟩|refine⟨rfl,_,?_⟩|skip
 exact HV.out.one HD.out HP.out HBe.out HJ.out (Zg _ _) (rfl)
):P:=h
theorem Tx{P:Prop}(h:P:=by
 go_roundw
 case rel=>exact⟨k+1,b3,k3,hlt,rfl,Yg,HOut3.out⟩
 case measure=>simp[intOf];omega
):P:=h
theorem TZ{P:Prop}(h:P:=by
 obtain⟨rfl,rfl,_⟩:=hL;have HR:=hid hR;clear hR;go_wp2
 first|refine⟨_,rfl,?_⟩|skip
 exact⟨HR.out,Zg _ _,HM1.out⟩
):P:=h
theorem Ei{P:Prop}(h:P:=by
 go_wp2
 first|refine⟨_,rfl,?_⟩|skip
 exact⟨⟨Zl HR.out.base HBa.out.size,HR.out.be.trans (HBa.out.mono HR.out.base)⟩,HBa.out,HRow.out⟩
):P:=h
theorem Ej{P:Prop}(h:P:=by go_wp2;exact Zr (v:=.slice b0 x.length k0) YA rfl ((HO.out.rebase HSw.out hsz).ret JV)):P:=h
theorem Ia{P:Prop}(h:P:=by have e:((k:Int)+1)*(n:Int)=(p1:Int):=V6;unfold Hid;rw[e,IntWalk.wrap64_in _ Ya]):P:=h
theorem Ib{P:Prop}(h:P:=by
 go_roundw
 case rel=>exact⟨k+1,b3,k3,hlt,rfl,Yg,HO3.out⟩
 case measure=>simp[intOf];omega
):P:=h
theorem YA{P:Prop}(h:P:=by simp[results,Tryz.results37,go_sem]):P:=h
theorem Xt{P:Prop}(h:P:=by simp[results,Tryz.results99,go_sem,r0,r1,r2,r3,rlt,ZaL rlt]):P:=h
theorem Xu{P:Prop}(h:P:=by simp[results,Tryz.results65,go_sem,r0,r1,r2,r3,rlt,ZaL rlt]):P:=h
structure S3F (w wr:World) (f:zl):Prop where
 ac:AcF w wr (w.heap.size+2) f
 rb:zbo wr (w.heap.size+1) (.slice none 0 0) (.bool false) (.slice none 0 0) (.slice none 0 0)
 ra:zbt zb5 wr (w.heap.size+1)
theorem S3F.below{w wr W:World}{f:zl}(h:S3F w wr f)(hb:Below wr.heap.size wr W):S3F w W f:=⟨h.ac.below hb,h.rb.below hb,h.ra.below hb h.rb.lt⟩
theorem S3F.step{w wr W:World}{f k:zl}{q0 q1 q2 q3:Value}(h:S3F w wr f)(hb:Below wr.heap.size wr W)(hk:zaG W q0 q1 q2 q3 k):
  S3F w ((((W.setCell ⟨w.heap.size+2,0,none⟩ q0).setCell ⟨w.heap.size+2,1,none⟩ q1).setCell ⟨w.heap.size+2,2,none⟩ q2).setCell ⟨w.heap.size+2,3,none⟩ q3) k:=by
 have hne:w.heap.size+2≠w.heap.size+1:=Ya;exact Ep
theorem S3F.start{w:World}{q1 q2 q3:Value}{b:Rat}(h:zbA w q1 q2 q3 b)(T U:Nat):
  S3F w (((w.alloc (.cells #[q1,q2,q3] U)).alloc (.cells #[.slice none 0 0,.bool false,.slice none 0 0,.slice none 0 0] T)).alloc (.cells #[.slice none 0 0,q1,q2,q3] T)) (zkq b):=by
 have b0:=blA w (.cells #[q1,q2,q3] U);have s0:(w.alloc (.cells #[q1,q2,q3] U)).heap.size=w.heap.size+1:=Yd;obtain⟨W0,hW0⟩:∃W0,W0=w.alloc (.cells #[q1,q2,q3] U):=⟨_,rfl⟩
 rw[<- hW0]at b0 s0⊢;have x1:=zc9.alloc (zaA W0) T;have b1:=blA W0 (.cells #[.slice none 0 0,.bool false,.slice none 0 0,.slice none 0 0] T);have s1:(W0.alloc (.cells #[.slice none 0 0,.bool false,.slice none 0 0,.slice none 0 0] T)).heap.size=w.heap.size+2:=by simp[s0]
 obtain⟨W1,hW1⟩:∃W1,W1=W0.alloc (.cells #[.slice none 0 0,.bool false,.slice none 0 0,.slice none 0 0] T):=⟨_,rfl⟩
 rw[<- hW1]at x1 b1 s1⊢;have hb:=b0.trans (b1.mono b0.size);have hk:zaG W1 (.slice none 0 0) q1 q2 q3 (zkq b):=⟨⟨none,0,rfl,Za _,ze8.nil _ _⟩,h.below hb⟩
 have x2:=zc9.alloc hk T;have b2:=blA W1 (.cells #[.slice none 0 0,q1,q2,q3] T);rw[s1]at x2;rw[s0]at x1;exact⟨⟨⟨_,_,_,_,x2⟩,hb.trans (b2.mono hb.size),Ya⟩,x1.bx.below b2,x1.al.below b2 x1.bx.lt⟩
theorem zns{w:World}{vs:Value}{b:Rat}{ws:List Rat}{ix:List Int}{x:List zl}{ai aw ax:Option Addr}{nw ni nx W C D B N:Nat}{F:Nat->Prop}(cw ci cx:Nat)(hs:RatV w vs (zh b))(hW:zN w aw (ws.map zh))(hI:z9 w F ai ix)(hX:zaN w ax x)
 (h1:ws.length=nw)(h2:ix.length=ni)(h3:x.length=nx)(hl:ni<=nw)(hb:∀i∈ix,i<(nx:Int))(bw:BdL W C ws)(bb:Bd W C b)(hW0:0<W)(bx:zcf D B N x)(hD0:0<D)(hP:Pay (W*D) (C+B+(ni+1)*(C*B)))(hN:N<=250000):
  Calls Tryz.prog 63 #[vs,.slice aw nw cw,.slice ai ni ci,.slice ax nx cx] w (zaE w (zce b ws 0 ix x ni)):=by
 obtain⟨q1,q2,q3,rfl,hrc⟩:=zbA.of hs;obtain⟨pb,pan,pnn,pcn,pad,pnd,pcd,e⟩:=hs.spell;cases e;have HS0:=hid (S3F.start hrc 53 51);have hB0:=blA w (.cells #[.bool pb,.slice pan pnn pcn,.slice pad pnd pcd] 51);have u0:=zbn.alloc w (.bool pb) (.slice pan pnn pcn) (.slice pad pnd pcd) 51;obtain⟨HW,HI0,HX,H1,H2⟩:=hd5 hW hI hX h1 h2;have hni:ni<=9223372036854775807:=by rw[<- h2];exact hI.len
 obtain⟨H3,HIb,HBw,HBb,HBx,HPy⟩:=hd6 h3 hb bw bb bx hP;clear hs hrc hW hI hX h1 h2 h3 hb bw bb bx hP
 go_enter Tryz.func63,Tryz.ntmps63
 go_upto_region 2 with fail
 generalize((w.alloc (.cells #[.bool pb,.slice pan pnn pcn,.slice pad pnd pcd] 51)).alloc (.cells #[.slice none 0 0,.bool false,.slice none 0 0,.slice none 0 0] 53)).alloc (.cells #[.slice none 0 0,.bool pb,.slice pan pnn pcn,.slice pad pnd pcd] 53)=W0 at *;clear hB0 u0;go_wp2
 go_loopw [10] (fun i wi=>∃k:Nat,k<=ni/\i=.int .i64 (k:Int)/\Hid (S3F w wi (zce b ws 0 ix x k))) (fun i _=>ni-(intOf i).toNat)
 case atStart=>exact⟨0,Zs _,rfl,HS0.out⟩
 case round=>
  obtain⟨k,hk,rfl,HI⟩:=hrel
  by_cases hlt:k<ni
  ·have hbi:Below w.heap.size w wr:=HI.out.ac.bl;obtain⟨bi,oi,d,hai,hd,hdx,_,hbi2,_,d1,d2⟩:=HI0.out.pick2 (k:=k) (by rw[H2.out];exact hlt);have hd:=(hbi.cell (p:=⟨bi,oi+k,none⟩) hbi2).trans hd;have hbi3:=Zd hbi2 hbi.size;have hgd:ix.getD k 0=d:=by rw[Zf,hdx];rfl
   rw[hai]
   by_cases hneg:0<=d
   ·obtain⟨u,rfl⟩:=Za8 hneg;have hux:u<nx:=by have:=HIb.out _ (Zt hdx);omega
    obtain⟨bw,ow,v,vn,vd,vcn,vcd,haw,hbw,hv,wc0,wc1,wc2,hwv⟩:=HW.out.pick (k:=k) (by rw[ZP,H1.out];omega);obtain⟨bx,ox,y,p0,p1,p2,p3,hax,hbx,hyy,yc0,yc1,yc2,yc3,hyv⟩:=HX.out.pick (k:=u) (by rw[H3.out];exact hux);obtain⟨ya,yn,yc,yb,yan,ynn,ycn,yad,ynd,ycd,rfl,rfl,rfl,rfl⟩:=hyv.spell;obtain⟨hv1,hv2⟩:=zel hv;have hxk:x.getD u zbq=y:=by rw[Zf,hyy];rfl
    obtain⟨s,hs⟩:∃s,s=zce b ws 0 ix x k:=⟨_,rfl⟩
    obtain⟨s1,hs1⟩:∃s1,s1=zce b ws 0 ix x (k+1):=⟨_,rfl⟩
    obtain⟨q,hq⟩:∃q,q=ws.getD k 0:=⟨_,rfl⟩
    obtain⟨pr,hpr⟩:∃pr,pr=scA q y:=⟨_,rfl⟩
    have hq1:za2 1 s pr=s1:=by
     rw[hs,hpr,hs1,hq,<- hxk];show _=(if 0<=ix.getD k 0 then _ else _)
     rw[hgd,Zq hneg,ZO];rfl
    have HI1:=HI.out;rw[<- hs]at HI1;have HI:=hid HI1;obtain⟨sa,sn,sc,sb,san,snn,scn,sad,snd,scd,hbxs⟩:=HI1.ac.spell;have HSf:=hid hbxs.fm.val;have hby:BdF D B N y:=by rw[<- hxk];exact HBx.out.at hD0 u
    have hbq:Bd W C q:=by rw[hq];exact HBw.out.at hW0 _
    have hP:=HPy.out;have hPD:Pay D B:=Pay.le hP (Zag _ hW0) Ya;have hPW:Pay W C:=Pay.le hP (ZaN _ hD0) Ya;have hmk:(k+1)*(C*B)<=ni*(C*B):=Zp _ hlt;rw[Zaa]at hmk;have hmn:(ni+1)*(C*B)=ni*(C*B)+C*B:=Zaa _ _;have hPp:Pay (W*D) (C*B):=Pay.le hP (Za _) Ya;have hPs:Pay (W*D) (C+k*(C*B)+C*B):=Pay.le hP (Za _) Ya;have c1:∀t∈y.ts,zaf (zh t.2) 1048575:=fun t ht=>(hPD.b5 (hby.mem ht)).mono Yb
    have c2:zaf (zh y.c) 1048575:=(hPD.b5 hby.c).mono Yb;have c3:zaf (zh q) 1048575:=(hPW.b5 hbq).mono Yb;have c4:∀t∈y.ts,zaf (zh (t.2*q)) 1048576:=fun t ht=>by
     have h:=hbq.mul (hby.mem ht);rw[Rat.mul_comm]at h;exact(hPp.b5 h).mono Yb
    have hfew:y.ts.length<=500000:=by have:=hby.few;omega
    have hcy:=hby.can;have hyV:=hyv.val;have hv2q:v=zh q:=by rw[hv2,hq]
    have HMul:Hid (∀X,Below wr.heap.size wr X->Calls Tryz.prog 49 #[.agg #[.slice ya yn yc,.bool yb,.slice yan ynn ycn,.slice yad ynd ycd],.agg #[.bool v.neg,.slice vn v.num.length vcn,.slice vd v.den.length vcd]] X (zaE X pr)):=fun X hb=>by
     have hbw2:=hbi.trans (hb.mono hbi.size);rw[hpr];exact zny (hyV.below hbw2) (by have h:=hwv.below hbw2;rw[hv2q]at h;rw[<- hv2q]at h⊢;exact h) hcy c1 c2 c3 c4 hfew
    have HAdd:Hid (∀X,Below wr.heap.size wr X->∀z,zai X z pr->Calls Tryz.prog 48 #[.agg #[.slice sa sn sc,.bool sb,.slice san snn scn,.slice sad snd scd],z] X (zaE X s1)):=fun X hb z hz=>by
     rw[<- hq1]
     refine znU (HSf.out.below hb) hz (B:=C+k*(C*B)) (C:=C*B) (D:=W*D) (N:=N) ?_ ?_ hPs hN
     ·rw[hs];exact BdF.sum HBb.out HBw.out HBx.out hD0 _ _ _
     ·rw[hpr];exact BdF.sc hbq hby
    have HS1:=hid hs1;have HCe:Hid (∀X,Below wr.heap.size wr X->X.cell? ⟨w.heap.size+2,0,none⟩=some (.slice sa sn sc)/\X.cell? ⟨w.heap.size+2,1,none⟩=some (.bool sb)/\X.cell? ⟨w.heap.size+2,2,none⟩=some (.slice san snn scn)/\X.cell? ⟨w.heap.size+2,3,none⟩=some (.slice sad snd scd)/\w.heap.size+2<X.heap.size/\
      X.cell? ⟨bi,oi+k,none⟩=some (.int .i64 (u:Int))/\bi<X.heap.size/\
      X.cell? ⟨bx,ox+u*4,none⟩=some (.slice ya yn yc)/\X.cell? ⟨bx,ox+u*4+1,none⟩=some (.bool yb)/\X.cell? ⟨bx,ox+u*4+2,none⟩=some (.slice yan ynn ycn)/\X.cell? ⟨bx,ox+u*4+3,none⟩=some (.slice yad ynd ycd)/\bx<X.heap.size/\
      X.cell? ⟨bw,ow+k*3,none⟩=some (.bool v.neg)/\X.cell? ⟨bw,ow+k*3+1,none⟩=some (.slice vn v.num.length vcn)/\X.cell? ⟨bw,ow+k*3+2,none⟩=some (.slice vd v.den.length vcd)/\bw<X.heap.size):=fun X hb=>by
     have hb2:=hbi.trans (hb.mono hbi.size);exact⟨(hb.cell hbxs.bx.lt).trans hbxs.bx.c0,(hb.cell hbxs.bx.lt).trans hbxs.bx.c1,(hb.cell hbxs.bx.lt).trans hbxs.bx.c2,(hb.cell hbxs.bx.lt).trans hbxs.bx.c3,Zd hbxs.bx.lt hb.size,
      (hb.cell hbi3).trans hd,Zd hbi3 hb.size,
      (hb2.cell hbx).trans yc0,(hb2.cell hbx).trans yc1,(hb2.cell hbx).trans yc2,(hb2.cell hbx).trans yc3,Zd hbx hb2.size,
      (hb2.cell hbw).trans wc0,(hb2.cell hbw).trans wc1,(hb2.cell hbw).trans wc2,Zd hbw hb2.size⟩
    have hkn:decide ((k:Int)<(ni:Int))=true:=Zk Ya;have hkI:(k:Int)<(ni:Int):=Ya;have huI:(u:Int)<(nx:Int):=Ya;have hkw:(k:Int)<(nw:Int):=Ya;rw[haw,hax];clear hP hPD hPW hmk hmn hPp hPs c1 c2 c3 c4 hfew hcy hby hbq hyV hv2q hbxs HI1 hv hv1 hv2 hyy hyv hwv hxk hs hs1 hq hpr hq1 wc0 wc1 wc2 yc0 yc1 yc2 yc3 hgd
    go_upto_region 6 with fail
    refine zah 14 Yc Yc Yc Yc Yb (zcm wr.heap.size wr) (fun w w'=>Below w.heap.size w w') (GP [SP.val (.agg #[.slice sa sn sc,.bool sb,.slice san snn scn,.slice sad snd scd]),SP.val (.slice (some ⟨bx,ox,none⟩) nx cx),SP.val (.slice (some ⟨bi,oi,none⟩) ni ci),SP.val (.int .i64 (k:Int)),SP.val (.pointer (some ⟨bi,oi+k,none⟩)),SP.val (.int .i64 (u:Int)),SP.val (.pointer (some ⟨bx,ox+u*4,none⟩)),SP.val (.agg #[.slice ya yn yc,.bool yb,.slice yan ynn ycn,.slice yad ynd ycd]),SP.val (.slice (some ⟨bw,ow,none⟩) nw cw),SP.val (.int .i64 (k:Int)),SP.val (.pointer (some ⟨bw,ow+k*3,none⟩)),SP.val (.agg #[.bool v.neg,.slice vn v.num.length vcn,.slice vd v.den.length vcd]),SP.frm pr,SP.frm s1]) (fun i v w w' h hb=>zd0 h hb) (zcm.start (Za _)) ?_ ?_
    ·intro ops hops;have HOps:=hid hops;clear hops;simp only[Zm,Zv,zbM]
     refine⟨?_,?v1,?v2,?v3,?_,?_,?_,?_,?v8,?v9,?_,?_,?_,?_,trivial⟩
     all_goals (intro y' X hR hL;have hB:=hR.base)
     case v1|v2|v3|v8|v9=>
      exact IF
     ·obtain⟨x0,x1,x2,x3,xlt,e0,elt,y0,y1,y2,y3,ylt,w0,w1,w2,wlt⟩:=HCe.out X hR.be;exact IF
     ·simp only[zbd,Region.binds,Zj,Ze,Zi,GP,SP.val,SP.frm,SP.rat,SP.tru,SP.tup,SP.grv,Zc,Zb]at hL;simp[zg,Act.put];generalize y' 2=y2 at hL⊢;generalize y' 3=y3 at hL⊢;exact IY
     ·obtain⟨x0,x1,x2,x3,xlt,e0,elt,y0,y1,y2,y3,ylt,w0,w1,w2,wlt⟩:=HCe.out X hR.be;exact O3
     ·simp only[zbd,Region.binds,Zj,Ze,Zi,GP,SP.val,SP.frm,SP.rat,SP.tru,SP.tup,SP.grv,Zc,Zb]at hL;simp[zg,Act.put];generalize y' 1=y1 at hL⊢;generalize y' 5=y5 at hL⊢;exact IY
     ·obtain⟨x0,x1,x2,x3,xlt,e0,elt,y0,y1,y2,y3,ylt,w0,w1,w2,wlt⟩:=HCe.out X hR.be;exact O4
     ·simp only[zbd,Region.binds,Zj,Ze,Zi,GP,SP.val,SP.frm,SP.rat,SP.tru,SP.tup,SP.grv,Zc,Zb]at hL;exact O7
     ·obtain⟨x0,x1,x2,x3,xlt,e0,elt,y0,y1,y2,y3,ylt,w0,w1,w2,wlt⟩:=HCe.out X hR.be;simp only[zbd,Region.binds,Zj,Ze,Zi,GP,SP.val,SP.frm,SP.rat,SP.tru,SP.tup,SP.grv,Zc,Zb]at hL;simp[zg,Act.put];generalize y' 10=y10 at hL⊢;exact IM
     ·simp only[zbd,Region.binds,Zj,Ze,Zi,GP,SP.val,SP.frm,SP.rat,SP.tru,SP.tup,SP.grv,Zc,Zb]at hL;simp[zg,Act.put];generalize y' 7=y7 at hL⊢;generalize y' 11=y11 at hL⊢;obtain⟨rfl,rfl,_⟩:=hL;have HR:=hid hR;clear hR;have HCt:=hid (HMul.out X HR.out.be);exact Uh
     ·simp only[zbd,Region.binds,Zj,Ze,Zi,GP,SP.val,SP.frm,SP.rat,SP.tru,SP.tup,SP.grv,Zc,Zb]at hL;simp[zg,Act.put];generalize y' 0=y0 at hL⊢;generalize y' 12=y12 at hL⊢;obtain⟨rfl,H12,_,_⟩:=hL;obtain⟨K12,HR⟩:=hd2 H12 hR;clear hR H12;have HCt:=hid (HAdd.out X HR.out.be _ K12.out);exact Uh
    ·intro ops y' X hR hL;have hB:=hR.base;have J13:=hL.2;simp only[GP,SP.val,SP.frm,SP.rat,SP.tru,SP.tup,SP.grv,Zc,Zb]at J13;obtain⟨x0,x1,x2,x3,xlt,e0,elt,y0,y1,y2,y3,ylt,w0,w1,w2,wlt⟩:=HCe.out X hR.be;clear hL;simp only[Zm,Zv,ZD,ZN];simp[zg,Act.put];generalize y' 13=y13 at J13⊢;have HR:=hid hR;clear hR;obtain⟨ra,rn,rc,rb,ran,rnn,rcn,rad,rnd,rcd,rfl⟩:=J13.spell;have HSt:=hid (HI.out.step (show Below wr.heap.size wr X from HR.out.be) J13.fp);obtain⟨_,_,_,_,hbz⟩:=(HI.out.below (show Below wr.heap.size wr X from HR.out.be)).ac.ex;obtain⟨z0,z1,z2,z3,zf,zlt⟩:=hbz.bx;clear J13 hbz x0 x1 x2 x3 xlt e0 elt y0 y1 y2 y3 ylt w0 w1 w2 wlt;go_wp2;go_roundw
     case rel=>exact⟨k+1,hlt,Yg,by rw[<- HS1.out];exact HSt.out⟩
     case measure=>simp[intOf];omega
   ·obtain⟨s,hs⟩:∃s,s=zce b ws 0 ix x (k+1):=⟨_,rfl⟩
    have hs2:zce b ws 0 ix x k=s:=by
     rw[hs];show _=(if 0<=ix.getD k 0 then _ else _)
     rw[hgd,Zh hneg]
    have HI2:=HI.out;rw[hs2]at HI2;obtain⟨HI2,HS⟩:=hd2 HI2 hs;have hkI:(k:Int)<(ni:Int):=Ya;clear hs hs2 HI hbi hgd;go_wp2;go_roundw
    case rel=>exact⟨k+1,hlt,Yg,by rw[<- HS.out];exact HI2.out⟩
    case measure=>simp[intOf];omega
  ·obtain rfl:k=ni:=Ya;obtain⟨sa,sn,sc,sb,san,snn,scn,sad,snd,scd,hbxs⟩:=HI.out.ac.spell;obtain⟨s0,s1,s2,s3,sf,slt⟩:=hbxs.bx;have HO:=hid (hbxs.fm.val.ret HI.out.ra HI.out.ac.bl (Zab _));obtain⟨r0,r1,r2,r3,rf,rlt⟩:=HI.out.rb;generalize zce b ws 0 ix x k=R at *;clear HI hbxs;go_wp2;exact Zr (by simp[results,Tryz.results63,go_sem,r0,r1,r2,r3,rlt,ZaL rlt]) rfl HO.out
def SP.onf(f:zl):SP:=⟨fun v w=>zdp zaG w v f,fun _ _ _ h hb=>h.below zaR hb⟩
structure BeJ (W0:World) (L:List SP) (p:Nat) (dp:List (Nat×Nat)) (x0:Value) (Post:Value->World->Prop) (d:Nat->Bool) (g:Nat->Value) (W:World):Prop where
 cl:∀q∈dp,d q.1=true->d q.2=true
 z0:d 0=true->g 0=x0
 st:(d p=false/\Below W0.heap.size W0 W/\∀i,d i=true->GP L i (g i) W)∨(d p=true/\(∀i,0<i->i<p->d i=true)/\Post (g p) W)
section
variable {W0:World} {L:List SP} {p:Nat} {dp:List (Nat×Nat)} {x0:Value} {Post:Value->World->Prop} {d:Nat->Bool} {g:Nat->Value} {W W':World}
theorem BeJ.start(g:Nat->Value):BeJ W0 L p dp x0 Post (fun _=>false) g W0.drew:=⟨(fun _ _ h=>YG),(fun h=>YG),.inl ⟨rfl,(Zg _ _).drew,fun _ h=>YG⟩⟩
theorem BeJ.one(hV:BeJ W0 L p dp x0 Post d g W){i:Nat}{v:Value}(hdeps:∀q∈dp,q.1=i->d q.2=true)(hp:d p=false)(hbe:Below W0.heap.size W0 W)(h:∀i,d i=true->GP L i (g i) W)(hb:Below W.heap.size W W')(hv:GP L i v W')(hi:p≠i:=by decide)(hx:i=0->v=x0:=by first|(intro _;rfl)|(intro e;cases e)):BeJ W0 L p dp x0 Post (zdB d i) (upd g i v) W':=by
 refine⟨zgo hV.cl hdeps,fun h0=>?_,.inl ⟨by rw[zas hi];exact hp,hbe.trans (hb.mono hbe.size),fun k hk=>?_⟩⟩
 ·exact EL
 ·unfold upd
  by_cases e:k=i
  ·subst e;rw[Zq rfl];exact hv
  ·rw[Zh e];rw[zas e]at hk;exact zd0 (h k hk) hb
theorem BeJ.late(hV:BeJ W0 L p dp x0 Post d g W)(hp0:p≠0)(hdeps:∀q∈dp,q.1≠0)(hp:d p=true)(ha:∀i,0<i->i<p->d i=true)(hP:Post (g p) W):BeJ W0 L p dp x0 Post (zdB d 0) (upd g 0 x0) W:=by
 refine⟨zgo hV.cl (fun q hq e=>absurd e (hdeps q hq)),fun _=>JJ,.inr ⟨by rw[zas hp0];exact hp,fun i h1 h2=>Xg,?_⟩⟩
 unfold upd;rw[Zh hp0];exact hP
theorem BeJ.app(hV:BeJ W0 L p dp x0 Post d g W){v:Value}(hp0:p≠0)(ha:∀i,0<i->i<p->d i=true)(hdeps:∀q∈dp,q.1≠p)(hP:Post v W'):BeJ W0 L p dp x0 Post (zdB d p) (upd g p v) W':=TW
end
def UnP(gG n:Nat)(W0:World)(U:List zl)(f:zl)(a:Option Addr)(c:Nat)(v:Value)(W:World):Prop:=
 ∃b k W1,v=.slice b (U.length+1) k/\LSt W1 gG n U/\Stp gG W0 W1/\W1.cell? ⟨gG,1,none⟩=some (.slice a U.length c)/\zmK W (gG+1) (.slice b (U.length+1) k) (U++[f])/\W1.grownBy W (Value.slice a U.length c).ownBlock/\ziB W1 (.slice a U.length c) (.slice b (U.length+1) k)
theorem zmV{w:World}{gG n:Nat}{U:List zl}{v:Value}{f:zl}(hL:LSt w gG n U)(hv:zai w v f)(hn:n<=1000000)(hU:U.length<=1000000):
  Calls Tryz.prog 66 #[.pointer (some ⟨gG,0,none⟩),v] w (zgR gG n w (U++[f]) (za4 (n+U.length))):=by
 obtain⟨p0,p1,p2,p3,rfl,hF⟩:=hv.ex;have x2:=zc9.alloc hF 53;have b2:=blA w (.cells #[p0,p1,p2,p3] 53);have s2:(w.alloc (.cells #[p0,p1,p2,p3] 53)).heap.size=w.heap.size+1:=Yd;obtain⟨W2,hW2⟩:∃W2,W2=w.alloc (.cells #[p0,p1,p2,p3] 53):=⟨_,rfl⟩
 rw[<- hW2]at x2 b2 s2;have x3:=zc9.alloc (zaA W2) 53;have b3:=blA W2 (.cells #[.slice none 0 0,.bool false,.slice none 0 0,.slice none 0 0] 53);have s3:(W2.alloc (.cells #[.slice none 0 0,.bool false,.slice none 0 0,.slice none 0 0] 53)).heap.size=w.heap.size+2:=by simp[s2]
 obtain⟨W3,hW3⟩:∃W3,W3=W2.alloc (.cells #[.slice none 0 0,.bool false,.slice none 0 0,.slice none 0 0] 53):=⟨_,rfl⟩
 rw[<- hW3]at x3 b3 s3;rw[s2]at x3;have x22:=x2.below b3;have b3':Below w.heap.size w W3:=b2.trans (b3.mono b2.size);obtain⟨p0',p1',p2',p3',hp⟩:∃a n c b an nn cn ad nd cd,p0=.slice a n c/\p1=.bool b/\p2=.slice an nn cn/\p3=.slice ad nd cd:=hF.spell;obtain⟨yan,ynn,ycn,yad,ynd,ycd,rfl,rfl,rfl,rfl⟩:=hp;obtain⟨V1,hV1⟩:∃V1,V1=za4 (n+U.length):=⟨_,rfl⟩
 rw[<- hV1];have HV1:=hid hV1;clear hV1;obtain⟨HL3,HX2,HX3,HB3,HS3,HFp⟩:=hd6 (hL.below b3') x22 x3 b3' s3 x22.fm.val;have HW:=hid hW3;rw[hW2]at HW;obtain⟨a,c,hc1,ho⟩:=HL3.out.g1;obtain⟨HO3,HC1,HF3⟩:=hd3 ho hc1 (LSt.fresh (b:=w.heap.size+1) hL (w:=w) (w':=W3) b3' Ya Ya);clear x2 x22 x3 b2 b3 s2 s3 hW2 hW3 hF hv b3' ho hc1
 go_enter Tryz.func66,Tryz.ntmps66
 go_upto_region 1 with fail
 rw[<- HW.out];clear HW
 refine zK 8 Yc Yc Yc Yc Yb (BeJ W3 [SP.val (.pointer (some ⟨gG,0,none⟩)),SP.val (.pointer (some ⟨gG,0,none⟩)),SP.val (.pointer (some ⟨gG,0,none⟩)),SP.val (.pointer (some ⟨gG,1,none⟩)),SP.val (.slice a U.length c),SP.val (.agg #[.slice p0' p1' p2',.bool p3',.slice yan ynn ycn,.slice yad ynd ycd]),SP.onf f] 7 [(2,1),(3,2),(4,3),(6,5)] (.pointer (some ⟨gG,0,none⟩)) (UnP gG n W3 U f a c)) (fun g=>BeJ.start g) ?_ ?_
 ·intro ops;simp only[Zm,Zv,zbZ]
  refine⟨?_,?_,?_,?_,?_,?_,?_,?_,trivial⟩
  ·intro d y' X hV hd hW;obtain⟨hp,hBe,hJ⟩|⟨hp,hal,hPo⟩:=hV.st
   ·simp only[zaa,Region.binds,Zj,Ze,Zi,ZK,ZL]at hW;have hdeps:∀q∈([(2,1),(3,2),(4,3),(6,5)]:List (Nat×Nat)),q.1=0->d q.2=true:=Yd;exact Oa
   ·simp[zg,Act.put];obtain⟨HV,HP,HAl,HPo⟩:=hd4 hV hp hal hPo;clear hV hp hal hPo hd hW;go_wp2
    first|refine⟨_,rfl,?_⟩|skip
    exact HV.out.late Yb Yd HP.out HAl.out HPo.out
  ·intro d y' X hV hd hW;obtain⟨hp,hBe,hJ⟩|⟨hp,hal,hPo⟩:=hV.st
   ·simp only[zaa,Region.binds,Zj,Ze,Zi,ZK,ZL]at hW;have hdeps:∀q∈([(2,1),(3,2),(4,3),(6,5)]:List (Nat×Nat)),q.1=1->d q.2=true:=Yd;exact Oa
   ·rw[hal 1 Yb Yb]at hd;cases hd
  ·intro d y' X hV hd hW;obtain⟨hp,hBe,hJ⟩|⟨hp,hal,hPo⟩:=hV.st
   ·simp only[zaa,Region.binds,Zj,Ze,Zi,ZK,ZL]at hW;have h1:d 1=true:=Ye;have hdeps:∀q∈([(2,1),(3,2),(4,3),(6,5)]:List (Nat×Nat)),q.1=2->d q.2=true:=Uc;have J1:=hJ 1 h1;simp only[GP,SP.val,SP.onf,Zc,Zb]at J1;simp[zg,Act.put];generalize hg1:y' 1=y1;rw[hg1]at J1;clear hg1;obtain rfl:=J1;obtain⟨HJ,HV,HP,HBe,HD⟩:=hd5 hJ hV hp hBe hdeps;clear hdeps hJ hV hp hBe hd hW h1;exact UM
   ·rw[hal 2 Yb Yb]at hd;cases hd
  ·intro d y' X hV hd hW;obtain⟨hp,hBe,hJ⟩|⟨hp,hal,hPo⟩:=hV.st
   ·simp only[zaa,Region.binds,Zj,Ze,Zi,ZK,ZL]at hW;have h2:d 2=true:=Ye;have hdeps:∀q∈([(2,1),(3,2),(4,3),(6,5)]:List (Nat×Nat)),q.1=3->d q.2=true:=by simp[h2]
    have J2:=hJ 2 h2;simp only[GP,SP.val,SP.onf,Zc,Zb]at J2;simp[zg,Act.put];generalize hg2:y' 2=y2;rw[hg2]at J2;clear hg2;obtain rfl:=J2;obtain⟨HJ,HV,HP,HBe,HD⟩:=hd5 hJ hV hp hBe hdeps;clear hdeps hJ hV hp hBe hd hW h2;exact UM
   ·rw[hal 3 Yb Yb]at hd;cases hd
  ·intro d y' X hV hd hW;obtain⟨hp,hBe,hJ⟩|⟨hp,hal,hPo⟩:=hV.st
   ·have hbe:=hBe;have hc1:=(hbe.cell (p:=⟨gG,1,none⟩) HL3.out.lt).trans HC1.out;have hgl:=Zd HL3.out.lt hbe.size;obtain⟨kx0,kx1,kx2,kx3,kf,klt⟩:=(HX2.out.below hbe).bx;clear hbe;simp only[zaa,Region.binds,Zj,Ze,Zi,ZK,ZL]at hW;have h3:d 3=true:=Ye;have hdeps:∀q∈([(2,1),(3,2),(4,3),(6,5)]:List (Nat×Nat)),q.1=4->d q.2=true:=by simp[h3]
    have J3:=hJ 3 h3;simp only[GP,SP.val,SP.onf,Zc,Zb]at J3;simp[zg,Act.put];generalize hg3:y' 3=y3;rw[hg3]at J3;clear hg3;obtain rfl:=J3;obtain⟨HJ,HV,HP,HBe,HD⟩:=hd5 hJ hV hp hBe hdeps;clear hdeps hJ hV hp hBe hd hW h3;exact UM
   ·rw[hal 4 Yb Yb]at hd;cases hd
  ·intro d y' X hV hd hW;obtain⟨hp,hBe,hJ⟩|⟨hp,hal,hPo⟩:=hV.st
   ·have hbe:=hBe;have hc1:=(hbe.cell (p:=⟨gG,1,none⟩) HL3.out.lt).trans HC1.out;have hgl:=Zd HL3.out.lt hbe.size;obtain⟨kx0,kx1,kx2,kx3,kf,klt⟩:=(HX2.out.below hbe).bx;clear hbe;simp only[zaa,Region.binds,Zj,Ze,Zi,ZK,ZL]at hW;have hdeps:∀q∈([(2,1),(3,2),(4,3),(6,5)]:List (Nat×Nat)),q.1=5->d q.2=true:=Yd;exact Oa
   ·rw[hal 5 Yb Yb]at hd;cases hd
  ·intro d y' X hV hd hW;obtain⟨hp,hBe,hJ⟩|⟨hp,hal,hPo⟩:=hV.st
   ·simp only[zaa,Region.binds,Zj,Ze,Zi,ZK,ZL]at hW;have h5:d 5=true:=Ye;have hdeps:∀q∈([(2,1),(3,2),(4,3),(6,5)]:List (Nat×Nat)),q.1=6->d q.2=true:=by simp[h5]
    have J5:=hJ 5 h5;simp only[GP,SP.val,SP.onf,Zc,Zb]at J5;simp[zg,Act.put];generalize hg5:y' 5=y5;rw[hg5]at J5;clear hg5;obtain rfl:=J5;obtain⟨HJ,HV,HP,HBe,HD⟩:=hd5 hJ hV hp hBe hdeps;clear hdeps hJ hV hp hBe hd hW h5;obtain⟨HRow,HBa⟩:=hd2 (zdp.form ((HFp.out.below HBe.out).fp) 53) ((Zg X.heap.size X).alloc (Za _) (.cells #[.slice p0' p1' p2',.bool p3',.slice yan ynn ycn,.slice yad ynd ycd] 53));go_wp2
    first|refine⟨_,rfl,?_⟩|refine⟨rfl,_,?_⟩|skip
    exact HV.out.one HD.out HP.out HBe.out HJ.out (HBa.out) (HRow.out)
   ·rw[hal 6 Yb Yb]at hd;cases hd
  ·intro d y' X hV hd hW;obtain⟨hp,hBe,hJ⟩|⟨hp,hal,hPo⟩:=hV.st
   ·have hbe:=hBe;have hc1:=(hbe.cell (p:=⟨gG,1,none⟩) HL3.out.lt).trans HC1.out;have hgl:=Zd HL3.out.lt hbe.size;obtain⟨kx0,kx1,kx2,kx3,kf,klt⟩:=(HX2.out.below hbe).bx;clear hbe;simp only[zaa,Region.binds,Zj,Ze,Zi,ZK,ZL]at hW;have h4:d 4=true:=Ye;have h6:d 6=true:=Ye;have J4:=hJ 4 h4;have J6:=hJ 6 h6;simp only[GP,SP.val,SP.onf,Zc,Zb]at J4 J6;simp[zg,Act.put];generalize hg4:y' 4=y4;rw[hg4]at J4;generalize hg6:y' 6=y6;rw[hg6]at J6;clear hg4;obtain rfl:=J4;clear hg6;have K6:=hid J6;clear J6;obtain⟨HJ,HV,HP,HBe⟩:=hd4 hJ hV hp hBe;have h5:=hV.cl (6,5) Yd h6;have h3:=hV.cl (4,3) Yd h4;have h2:=hV.cl (3,2) Yd h3;have h1:=hV.cl (2,1) Yd h2;have hall:∀i,0<i->i<7->d i=true:=by
     intro i i1 i2;have hi:i=1∨i=2∨i=3∨i=4∨i=5∨i=6:=Ya
     rcases hi with rfl|rfl|rfl|rfl|rfl|rfl<;>assumption
    have HAl:=hid hall;clear hall hJ hV hp hBe hd hW h4 h6 h5 h3 h2 h1;obtain⟨HOw,HGb,HLX,HC1X⟩:=hd4 (HO3.out.below zaR HBe.out) (show gG+1<=X.heap.size from hgl) (HL3.out.below HBe.out) hc1;clear HJ hc1 kx0 kx1 kx2 kx3 kf klt hgl
    go_wp2_with (at_builtin;refine apF rfl (.tmp 9) (.tmp 11) rfl (gG+1) (.slice a U.length c) U.length U rfl rfl HOw.out _ f K6.out rfl Ya HGb.out ?_;intro b3 k3 w3 hown hk3 hg hbe hnx;have HPost:Hid (UnP gG n W3 U f a c (.slice b3 (U.length+1) k3) w3):=⟨b3,k3,X,rfl,HLX.out,Stp.of HBe.out HL3.out.lt,HC1X.out,hown,hg,hnx⟩;clear hown hg hbe hnx)
    first|refine⟨_,rfl,?_⟩|skip
    exact HV.out.app Yb HAl.out Yd HPost.out
   ·rw[hp]at hd;cases hd
 ·intro ops d y' X hA hV;have hz0:=hV.z0 (hA 0 Yb);obtain⟨hp,_⟩|⟨_,_,hPo⟩:=hV.st
  ·rw[hA 7 Yb]at hp;cases hp
  have HPo:=hid hPo;clear hV hA hPo;simp only[Zm,Zv,ZD,ZN];simp[zg,Act.put];generalize y' 0=y0 at hz0⊢;subst hz0;generalize y' 7=yp at HPo⊢;obtain⟨b3,k3,W1,rfl,hl1,hs1,h11,hown,hg,hnx⟩:=HPo.out;have HU:=hid (hl1.unit h11 hown hg hnx);obtain⟨q1,q2,q3⟩:=hl1.unit_at h11 hg;obtain⟨HS1,HL1⟩:=hd2 hs1 hl1;clear HPo hl1 hs1 h11 hown hg hnx
  go_upto_region 2 with fail
  generalize X.setCell ⟨gG,1,none⟩ (.slice b3 (U.length+1) k3)=w4 at *;obtain⟨HSt,HLu,HXt,HFt⟩:=hd4 ((Stp.of HB3.out hL.lt).trans (HS1.out.trans HU.out.2)) HU.out.1 (HX3.out.stp HL3.out (HS1.out.trans HU.out.2) HF3.out) (HF3.out.stp (HS1.out.trans HU.out.2));clear q1 q2 q3 HU HF3 HO3 HC1 HX2 HX3 HS1 HL1 HFp HL3;obtain⟨a4,c4,hc4,ho4⟩:=HLu.out.g1;rw[show(U++[f]).length=U.length+1 from Yd]at hc4;have g0:=HLu.out.g0;have g9:=HLu.out.lt;have HV:=hid (fun X=>zna X (n+U.length));clear ho4;have HC4:=hid (And.intro g0 hc4);clear g0 hc4 g9;rw[<- HV1.out]at HV;have m1:IntKind.i64.wrap ((U.length:Int)+1)=(U.length:Int)+1:=IntWalk.i64_in _ Ya
  refine zah 12 Yc Yc Yc Yc Yb (zcm w4.heap.size w4) (fun w w'=>Below w.heap.size w w') (GP [SP.val (.pointer (some ⟨gG,0,none⟩)),SP.val (.pointer (some ⟨gG,0,none⟩)),SP.val (.pointer (some ⟨gG,0,none⟩)),SP.val (.int .i64 (n:Int)),SP.val (.pointer (some ⟨gG,0,none⟩)),SP.val (.pointer (some ⟨gG,0,none⟩)),SP.val (.pointer (some ⟨gG,1,none⟩)),SP.val (.slice a4 (U.length+1) c4),SP.val (.int .i64 ((U.length:Int)+1)),SP.val (.int .i64 ((n:Int)+((U.length:Int)+1))),SP.val (.int .i64 ((n+U.length:Nat):Int)),SP.frm V1]) (fun i v w w' h hb=>zd0 h hb) (zcm.start (Za _)) ?_ ?_
  ·intro ops hops;have HOps:=hid hops;clear hops;simp only[Zm,Zv,zbM]
   refine⟨?v0,?_,?_,?_,?v4,?_,?_,?_,?_,?_,?_,?_,trivial⟩
   all_goals (intro y' X hR hL;have hB:=hR.base)
   case v0|v4=>
    exact IF
   ·simp only[zbd,Region.binds,Zj,Ze,Zi,GP,SP.val,SP.frm,SP.rat,SP.tru,SP.tup,SP.grv,Zc,Zb]at hL;simp[zg,Act.put];generalize y' 0=y0 at hL⊢;exact IM
   ·simp only[zbd,Region.binds,Zj,Ze,Zi,GP,SP.val,SP.frm,SP.rat,SP.tru,SP.tup,SP.grv,Zc,Zb]at hL;simp[zg,Act.put];generalize y' 1=y1 at hL⊢;exact IM
   ·have g0:=(hR.be.cell (p:=⟨gG,0,none⟩) HLu.out.lt).trans HC4.out.1;have hc4:=(hR.be.cell (p:=⟨gG,1,none⟩) HLu.out.lt).trans HC4.out.2;have g9:=Zd HLu.out.lt (show w4.heap.size<=X.heap.size from hR.be.size);simp only[zbd,Region.binds,Zj,Ze,Zi,GP,SP.val,SP.frm,SP.rat,SP.tru,SP.tup,SP.grv,Zc,Zb]at hL;simp[zg,Act.put];generalize y' 2=y2 at hL⊢;exact IM
   ·exact O3
   ·simp only[zbd,Region.binds,Zj,Ze,Zi,GP,SP.val,SP.frm,SP.rat,SP.tru,SP.tup,SP.grv,Zc,Zb]at hL;simp[zg,Act.put];generalize y' 5=y5 at hL⊢;exact IM
   ·have g0:=(hR.be.cell (p:=⟨gG,0,none⟩) HLu.out.lt).trans HC4.out.1;have hc4:=(hR.be.cell (p:=⟨gG,1,none⟩) HLu.out.lt).trans HC4.out.2;have g9:=Zd HLu.out.lt (show w4.heap.size<=X.heap.size from hR.be.size);exact O4
   ·simp only[zbd,Region.binds,Zj,Ze,Zi,GP,SP.val,SP.frm,SP.rat,SP.tru,SP.tup,SP.grv,Zc,Zb]at hL;simp[zg,Act.put];generalize y' 7=y7 at hL⊢;exact IM
   ·simp only[zbd,Region.binds,Zj,Ze,Zi,GP,SP.val,SP.frm,SP.rat,SP.tru,SP.tup,SP.grv,Zc,Zb]at hL;simp[zg,Act.put];generalize y' 3=y3 at hL⊢;generalize y' 8=y8 at hL⊢;exact IY
   ·simp only[zbd,Region.binds,Zj,Ze,Zi,GP,SP.val,SP.frm,SP.rat,SP.tru,SP.tup,SP.grv,Zc,Zb]at hL;simp[zg,Act.put];generalize y' 9=y9 at hL⊢;obtain⟨rfl,_⟩:=hL;have HR:=hid hR;clear hR;go_wp2
    first|refine⟨_,rfl,?_⟩|skip
    exact⟨HR.out,Zg _ _,by show Value.int _ _=Value.int _ _;congr 1;first|omega|(rw[IntWalk.i64_in _ Ya];omega)⟩
   ·simp only[zbd,Region.binds,Zj,Ze,Zi,GP,SP.val,SP.frm,SP.rat,SP.tru,SP.tup,SP.grv,Zc,Zb]at hL;simp[zg,Act.put];generalize y' 10=y10 at hL⊢;obtain⟨rfl,_⟩:=hL;have HR:=hid hR;clear hR;have HCt:=hid (HV.out X);exact Uh
  ·intro ops y' X hR hL;have hB:=hR.base;have J11:=hL.2;simp only[GP,SP.val,SP.frm,SP.rat,SP.tru,SP.tup,SP.grv,Zc,Zb]at J11;have g0:=(hR.be.cell (p:=⟨gG,0,none⟩) HLu.out.lt).trans HC4.out.1;have hc4:=(hR.be.cell (p:=⟨gG,1,none⟩) HLu.out.lt).trans HC4.out.2;have g9:=Zd HLu.out.lt (show w4.heap.size<=X.heap.size from hR.be.size);clear hL;simp only[Zm,Zv,ZD,ZN];simp[zg,Act.put];generalize y' 11=y11 at J11⊢;have HR:=hid hR;clear hR;have hv5:=J11;have hb5:Below w4.heap.size w4 X:=HR.out.be;clear HR g0 hc4 g9;obtain⟨z0,z1,z2,z3,zb,zan,znn,zcn,zad,znd,rfl⟩:=hv5.spell;obtain⟨HL5,HS5,HX5,HF5⟩:=hd4 (HLu.out.below hb5) (HSt.out.trans (Stp.of hb5 HLu.out.lt)) (HXt.out.stp HLu.out (Stp.of hb5 HLu.out.lt) HFt.out) (HFt.out.stp (Stp.of hb5 HLu.out.lt));have HO:=hid (zgR.ret (w:=w) hv5 HL5.out HX5.out.al HF5.out HS5.out Ya);obtain⟨r0,r1,r2,r3,rf,rlt⟩:=HX5.out.bx;clear hv5 hb5 HV HL5 HS5 HX5 HF5 HLu HSt HXt HFt J11;go_wp2;exact Zr (by simp[results,Tryz.results66,go_sem,r0,r1,r2,r3,rlt,ZaL rlt]) rfl HO.out
theorem zjW{gG n D B N e:Nat}(hn:n<=1000000)(hD:0<D)(hB:1<=B)(hN:N<=250000)(hP:Pay D (2*(B+e))):∀(m:Nat) (w:World) (U l:List zl) (a:Option Addr) (c:Nat),m<=e->LSt w gG n U->zci gG w a l->zcf D B N l->
  1<=l.length->l.length<=m->n+U.length+(l.length-1)<=N->l.length<=c->
  Calls Tryz.prog 99 #[.pointer (some ⟨gG,0,none⟩),.slice a l.length c] w (zgR gG n w (zP n m U l).1 (zP n m U l).2):=by
 obtain⟨PP,hPE,hPP⟩:∃PP:Prop,PP=Pay D (2*(B+e))/\PP:=⟨_,rfl,hP⟩
 obtain⟨HPE,HPP⟩:=hd2 hPE hPP;clear hP hPE hPP;intro m
 induction m with
 | zero=>intro w U l a c _ _ _ _ h1 h2 _ _;omega
 | succ m ih=>
  intro w U l a c hme hL hR hBd h1 h2 hU hc;have IH:=hid ih;clear ih;have x1:=zc9.alloc (zaA w) 53;have b1:=blA w (.cells #[.slice none 0 0,.bool false,.slice none 0 0,.slice none 0 0] 53);have s1:(w.alloc (.cells #[.slice none 0 0,.bool false,.slice none 0 0,.slice none 0 0] 53)).heap.size=w.heap.size+1:=Yd;obtain⟨W1,hW1⟩:∃W1,W1=w.alloc (.cells #[.slice none 0 0,.bool false,.slice none 0 0,.slice none 0 0] 53):=⟨_,rfl⟩
  rw[<- hW1]at x1 b1 s1;obtain⟨HW,HX1,HS1,HL1⟩:=hd4 hW1 x1 (Stp.of b1 hL.lt) (hL.below b1);obtain⟨HR1,HF1,HBd,HU,Hge⟩:=hd5 (hR.stp hL HS1.out) (hL.fresh b1 (Za _) Ya) hBd hU (s1);clear hW1 x1 hR hBd hU s1 b1
  by_cases hone:l.length=1
  ·have hd:decide ((l.length:Int)=1)=true:=Yj;obtain⟨b,off,x,p0,p1,p2,p3,rfl,hb,hx,c0,c1,c2,c3,hp⟩:=HR1.out.at'.pick (k:=0) Ya;obtain⟨ya,yn,yc,yb,yan,ynn,ycn,yad,ynd,ycd,rfl,rfl,rfl,rfl⟩:=hp.spell;simp only[Zbo,ZW]at c0 c1 c2 c3;have hx0:l.getD 0 zbq=x:=by rw[Zf,hx];rfl
   have HO:=hid (zgR.ret (w:=w) hp.val HL1.out HX1.out.al HF1.out HS1.out (Za _));rw[zcT hone,hx0];have HX:=hid hx;obtain⟨r0,r1,r2,r3,rf,rlt⟩:=HX1.out.bx;clear hx hx0 hp
   go_enter Tryz.func99,Tryz.ntmps99
   go_upto_region 1 with fail
   rw[<- HW.out];clear HW;go_wp2;exact Zr Xt rfl HO.out
  ·have hd:decide ((l.length:Int)=1)=false:=Yj;obtain⟨hh,hhe⟩:∃hh,hh=(l.length+1)/2:=⟨_,rfl⟩
   obtain⟨hh1,hh2,hh3⟩:1<=hh/\hh<l.length/\l.length-hh<=hh:=Ya;have hl5:l.length<=500001:=YM;have hhe':=hid hhe;clear hhe;obtain⟨U1,fa,hga⟩:∃U1 fa,zP n m U (l.take hh)=(U1,fa):=⟨_,_,rfl⟩
   obtain⟨U2,fb,hgb⟩:∃U2 fb,zP n m U1 (l.drop hh)=(U2,fb):=⟨_,_,rfl⟩
   have t1:(l.take hh).length=hh:=Y0;have t2:(l.drop hh).length=l.length-hh:=Zbg;have hBt:zcf D B N (l.take hh):=fun f hf=>HBd.out f (Z4 hf)
   have hBdr:zcf D B N (l.drop hh):=fun f hf=>HBd.out f (Zau hf)
   have e1:=zaL n m U (l.take hh) Ya Ya;rw[hga]at e1;have e1:U1.length=U.length+(hh-1):=by rw[t1]at e1;exact e1
   have e2:=zaL n m U1 (l.drop hh) Ya Ya;rw[hgb]at e2;have e2:U2.length=U1.length+(l.length-hh-1):=by rw[t2]at e2;exact e2
   have hmore:zP n (m+1) U l=(U2++[za2 (-1) fb fa],za2 1 fa (za4 (n+U2.length))):=zcr Ya (by rw[<- hhe'.out];exact hga) (by rw[<- hhe'.out];exact hgb);have ba:=BdF.greatB hD hB n m U (l.take hh) hBt Ya Ya YM;rw[hga]at ba;have bb:=BdF.greatB hD hB n m U1 (l.drop hh) hBdr Ya Ya YM;rw[hgb]at bb;have hUv:n+U2.length<N:=YM;obtain⟨b,off,rfl⟩:∃b off,a=some ⟨b,off,none⟩:=Ir;have HA:=IH.out W1 U (l.take hh) (some ⟨b,off,none⟩) c Ya HL1.out (HR1.out.take hh) hBt Ya Ya YM Ya;rw[t1,hga]at HA;have HCA:=hid HA;obtain⟨f,hf⟩:∃f,f=za2 (-1) fb fa:=⟨_,rfl⟩
   obtain⟨R,hR'⟩:∃R,R=za2 1 fa (za4 (n+U2.length)):=⟨_,rfl⟩
   rw[<- hf,<- hR']at hmore;rw[hmore];obtain⟨HHf,HHR,HBa,HBb,HBdr,HT2⟩:=hd6 hf hR' ba bb hBdr t2;obtain⟨HGb,HE1,HE2⟩:=hd3 hgb e1 e2;clear HA hBt hBdr ba bb hf hR' hmore t1 t2 hga hgb e1 e2
   go_enter Tryz.func99,Tryz.ntmps99
   go_upto_region 1 with fail
   rw[<- HW.out];clear HW
   go_upto_region 4 with fail
   have hq:((l.length:Int)+1)/2=(hh:Int):=by have:=hhe'.out;omega
   simp only[hq];clear hq;have hhc:hh<=c:=Ya;have hhI:(hh:Int)<=(c:Int):=Ya;have hh0:(0:Int)<=(hh:Int):=Ya
   go_wp2_with fail
   refine HCA.out.mono ?_
   rintro e w2 ⟨v2,rfl,hv2,hl2,hs2⟩;obtain⟨aa,an,ac,ab,aan,ann,acn,aad,annd,acd,rfl⟩:=hv2.spell;have al2:=blA w2 (.cells #[.slice aa an ac,.bool ab,.slice aan ann acn,.slice aad annd acd] 53);obtain⟨HXA,HFA,HL2,HS2⟩:=hd4 (zc9.alloc hv2.fp 53) (hl2.fresh al2 (Za _) Yd) (hl2.below al2) (hs2.trans (Stp.of al2 hl2.lt));obtain⟨HX2,HF2,HR2,HSw2⟩:=hd4 (HX1.out.stp HL1.out HS2.out HF1.out) (HF1.out.stp HS2.out) (HR1.out.stp HL1.out HS2.out) (HS1.out.trans HS2.out);clear hv2 hl2 hs2 al2 HCA HX1 HF1 HR1
   go_upto_region 5 with fail
   generalize w2.alloc (.cells #[.slice aa an ac,.bool ab,.slice aan ann acn,.slice aad annd acd] 53)=Wg at *;have hne:¬ c=hh:=Ya;have HA:=IH.out Wg U1 (l.drop hh) (some ⟨b,off+hh*4,none⟩) (c-hh) Ya HL2.out (HR2.out.drop hh) HBdr.out XP XP Jy XP;rw[HT2.out,HGb.out]at HA;have HCB:=hid HA;have hlI:(hh:Int)<=(l.length:Int):=Ya;have hlN:hh<=l.length:=Ya;clear HA
   go_wp2_with fail
   refine HCB.out.mono ?_
   rintro e w4 ⟨v4,rfl,hv4,hl4,hs4⟩;obtain⟨ba,bn,bc,bb,ban,bnn,bcn,bad,bnd,bcd,rfl⟩:=hv4.spell;have al4:=blA w4 (.cells #[.slice ba bn bc,.bool bb,.slice ban bnn bcn,.slice bad bnd bcd] 53);obtain⟨HXB,HL4,HS4⟩:=hd3 (zc9.alloc hv4.fp 53) (hl4.below al4) (hs4.trans (Stp.of al4 hl4.lt));obtain⟨HXA4,HFA4,HFB4,HX4,HF4,HSw4⟩:=hd6 (HXA.out.stp HL2.out HS4.out HFA.out) (HFA.out.stp HS4.out) (hl4.fresh al4 (Za _) Yd) (HX2.out.stp HL2.out HS4.out HF2.out) (HF2.out.stp HS4.out) (HSw2.out.trans HS4.out);clear hv4 hl4 hs4 al4 HCB HX2 HF2 HR2 HXA HFA HSw2
   go_upto_region 6 with fail
   generalize w4.alloc (.cells #[.slice ba bn bc,.bool bb,.slice ban bnn bcn,.slice bad bnd bcd] 53)=Wh at *;have hLh:=HL4.out;have HCe:Hid (∀X,Stp gG Wh X->X.cell? ⟨w2.heap.size,0,none⟩=some (.slice aa an ac)/\X.cell? ⟨w2.heap.size,1,none⟩=some (.bool ab)/\X.cell? ⟨w2.heap.size,2,none⟩=some (.slice aan ann acn)/\X.cell? ⟨w2.heap.size,3,none⟩=some (.slice aad annd acd)/\
     X.cell? ⟨w4.heap.size,0,none⟩=some (.slice ba bn bc)/\X.cell? ⟨w4.heap.size,1,none⟩=some (.bool bb)/\X.cell? ⟨w4.heap.size,2,none⟩=some (.slice ban bnn bcn)/\X.cell? ⟨w4.heap.size,3,none⟩=some (.slice bad bnd bcd)):=fun X hs=>
    ⟨(HFA4.out.cell hs).trans HXA4.out.bx.c0, (HFA4.out.cell hs).trans HXA4.out.bx.c1, (HFA4.out.cell hs).trans HXA4.out.bx.c2, (HFA4.out.cell hs).trans HXA4.out.bx.c3,
      (HFB4.out.cell hs).trans HXB.out.bx.c0,(HFB4.out.cell hs).trans HXB.out.bx.c1,(HFB4.out.cell hs).trans HXB.out.bx.c2,(HFB4.out.cell hs).trans HXB.out.bx.c3⟩
   have HSub:Hid (∀X,Stp gG Wh X->Calls Tryz.prog 28 #[.agg #[.slice ba bn bc,.bool bb,.slice ban bnn bcn,.slice bad bnd bcd],.agg #[.slice aa an ac,.bool ab,.slice aan ann acn,.slice aad annd acd]] X (zaE X f)):=fun X hs=>by
    rw[HHf.out]
    refine zrC (HXB.out.fm.val.stp HL4.out hs) (HXA4.out.fm.val.stp HL4.out hs) HBb.out HBa.out (D:=D) (N:=N) ?_ hN
    exact Ee
   have HUn:Hid (∀X z,LSt X gG n U2->zai X z f->Calls Tryz.prog 66 #[.pointer (some ⟨gG,0,none⟩),z] X (zgR gG n X (U2++[f]) (za4 (n+U2.length)))):=fun X z hl hz=>zmV hl hz hn Ya
   have HAdd:Hid (∀X,Stp gG Wh X->∀z,zai X z (za4 (n+U2.length))->Calls Tryz.prog 48 #[.agg #[.slice aa an ac,.bool ab,.slice aan ann acn,.slice aad annd acd],z] X (zaE X R)):=fun X hs z hz=>by
    rw[HHR.out]
    refine znU (HXA4.out.fm.val.stp HL4.out hs) hz HBa.out (BdF.var (D:=D) (B:=1) (N:=N) hD (Za _) Ya) ?_ hN
    exact Ee
   obtain⟨V,hV⟩:∃V,V=za4 (n+U2.length):=⟨_,rfl⟩
   rw[<- hV]at HUn HAdd;have hga:=Zd HFA4.out.lt (Za _);have hgb:=HFB4.out.lt
   refine zK 7 Yc Yc Yc Yc Yb (zeb gG n Wh U2 (U2++[f]) 5 [.val (.agg #[.slice aa an ac,.bool ab,.slice aan ann acn,.slice aad annd acd]),.val (.pointer (some ⟨gG,0,none⟩)),.val (.agg #[.slice ba bn bc,.bool bb,.slice ban bnn bcn,.slice bad bnd bcd]),.val (.agg #[.slice aa an ac,.bool ab,.slice aan ann acn,.slice aad annd acd]),.frm f,.frm V,.frm R]) (fun g=>zeb.start YC g) ?_ ?_
   ·intro ops;simp only[Zm,Zv,zbZ]
    refine⟨?v0,?_,?v2,?v3,?_,?_,?_,trivial⟩
    case v0|v2|v3=>
     intro d y' X hJ hd hW;have hS:=hJ.st;obtain⟨a0,a1,a2,a3,b0,b1,b2,b3⟩:=HCe.out X hJ.st;exact O8
    ·exact O5
    ·intro d y' X hJ hd hW;simp only[zaa,Region.binds,Zj,Ze,Zi,ZK,ZL]at hW;have h2:d 2=true:=Ye;have h3:d 3=true:=Ye;have J2:=hJ.all 2 h2;have J3:=hJ.all 3 h3;simp only[GU,Zc,Zb]at J2 J3;simp[zg,Act.put];generalize hg2:y' 2=y2;rw[hg2]at J2;generalize hg3:y' 3=y3;rw[hg3]at J3;clear hg2;obtain rfl:=J2;clear hg3;obtain rfl:=J3;have HJ:=hid hJ;clear hJ hd hW h2 h3;have HCt:=hid (HSub.out X HJ.out.st);exact U7
    ·intro d y' X hJ hd hW;simp only[zaa,Region.binds,Zj,Ze,Zi,ZK,ZL]at hW;have h1:d 1=true:=Ye;have h4:d 4=true:=Ye;have J1:=hJ.all 1 h1;have J4:=hJ.all 4 h4;simp only[GU,Zc,Zb]at J1 J4;simp[zg,Act.put];generalize hg1:y' 1=y1;rw[hg1]at J1;generalize hg4:y' 4=y4;rw[hg4]at J4;clear hg1;obtain rfl:=J1;clear hg4;have K4:=hid J4;clear J4;obtain⟨HJ,HUnn⟩:=hd2 hJ (hJ.old hd);clear hJ hd hW h1 h4;have HCt:=hid (HUn.out X _ HUnn.out K4.out);exact UA
    ·intro d y' X hJ hd hW;simp only[zaa,Region.binds,Zj,Ze,Zi,ZK,ZL]at hW;have h0:d 0=true:=Ye;have h5:d 5=true:=Ye;have J0:=hJ.all 0 h0;have J5:=hJ.all 5 h5;simp only[GU,Zc,Zb]at J0 J5;simp[zg,Act.put];generalize hg0:y' 0=y0;rw[hg0]at J0;generalize hg5:y' 5=y5;rw[hg5]at J5;clear hg0;obtain rfl:=J0;clear hg5;have K5:=hid J5;clear J5;have HJ:=hid hJ;clear hJ hd hW h0 h5;have HCt:=hid (HAdd.out X HJ.out.st _ K5.out);exact U7
   ·intro ops d y' X hA hJ;have J6:=hJ.all 6 (hA 6 Yb);simp only[GU,Zc,Zb]at J6;have hS:=hJ.st;obtain⟨a0,a1,a2,a3,b0,b1,b2,b3⟩:=HCe.out X hJ.st;have hxa:=Zd hga hJ.st.size;have hxb:=Zd hgb hJ.st.size;obtain⟨HLn,HSn⟩:=hd2 (hJ.new (hA 5 Yb)) hJ.st;clear hJ hA;simp only[Zm,Zv,ZD,ZN];simp[zg,Act.put];generalize y' 6=y6 at J6⊢;obtain⟨ra,rn,rc,rb,ran,rnn,rcn,rad,rnd,rcd,rfl⟩:=J6.spell;obtain⟨HX9,HF9⟩:=hd2 (HX4.out.stp HL4.out HSn.out HF4.out) (HF4.out.stp HSn.out);have HO:=hid (zgR.ret (w:=w) J6 HLn.out HX9.out.al HF9.out (HSw4.out.trans HSn.out) (Za _));obtain⟨r0,r1,r2,r3,rf,rlt⟩:=HX9.out.bx;clear J6;go_wp2;exact Zr Xt rfl HO.out
theorem znT{w:World}{gG n D B N e nx ni:Nat}{U:List zl}{ai ax:Option Addr}{ix:List Int}{x:List zl}{F:Nat->Prop}(ci cx:Nat)(hn:n<=1000000)(hD:0<D)(hB:1<=B)(hN:N<=250000)(hP:Pay D (2*(B+e)))
 (hL:LSt w gG n U)(hI:z9 w F ai ix)(hX:zci gG w ax x)(h2:ix.length=ni)(h3:x.length=nx)(h1:1<=ni)(he:ni<=e)(hb:∀i∈ix,0<=i/\i<(nx:Int))(bx:zcf D B N x)(hU:n+U.length+(ni-1)<=N):
  Calls Tryz.prog 65 #[.pointer (some ⟨gG,0,none⟩),.int .i64 3,.slice ai ni ci,.slice ax nx cx] w (zgR gG n w (zP n ni U (zap ix x)).1 (zP n ni U (zap ix x)).2):=by
 have x1:=zc9.alloc (zaA w) 53;have b1:=blA w (.cells #[.slice none 0 0,.bool false,.slice none 0 0,.slice none 0 0] 53);have s1:(w.alloc (.cells #[.slice none 0 0,.bool false,.slice none 0 0,.slice none 0 0] 53)).heap.size=w.heap.size+1:=Yd;have hni:ni<=250001:=Ya;obtain⟨W1,hW1⟩:∃W1,W1=w.alloc (.cells #[.slice none 0 0,.bool false,.slice none 0 0,.slice none 0 0] 53):=⟨_,rfl⟩
 rw[<- hW1]at x1 b1 s1;obtain⟨HW,HX1,HS1,HL1⟩:=hd4 hW1 x1 (Stp.of b1 hL.lt) (hL.below b1);obtain⟨HXr,HI0,HF1,HSz,H2,H3⟩:=hd6 ((hX.stp hL HS1.out).at') (hI.below b1) (hL.fresh b1 (Za _) Ya) s1 h2 h3;obtain⟨HIb,HBx,HPy,HU⟩:=hd4 hb bx hP hU;obtain⟨R,hR⟩:∃R,R=zP n ni U (zap ix x):=⟨_,rfl⟩
 rw[<- hR];have HRe:=hid hR;clear hR hW1 x1 hI hX hb bx hP hU b1 s1 h2 h3
 go_enter Tryz.func65,Tryz.ntmps65
 go_upto_region 2 with fail
 rw[<- HW.out];clear HW;go_wp2
 go_loopw [9,10] (fun v i wr=>∃(k:Nat) (b0:Option Addr) (c0:Nat),k<=ni/\v=.slice b0 k c0/\i=.int .i64 (k:Int)/\Hid (zdZ W1 wr (.slice b0 k c0) (zap (ix.take k) x))) (fun _ i _=>ni-(intOf i).toNat)
 case atStart=>exact⟨0,none,0,Zs _,rfl,rfl,zdZ.start W1⟩
 case round=>
  obtain⟨k,b0,c0,hk,rfl,rfl,HO⟩:=hrel
  by_cases hlt:k<ni
  ·have hbi:Below W1.heap.size W1 wr:=HO.out.bl;obtain⟨bi,oi,d,hai,hd,hdx,_,hbi2,_,d1,d2⟩:=HI0.out.pick2 (k:=k) (by rw[H2.out];exact hlt);have hd:=(hbi.cell (p:=⟨bi,oi+k,none⟩) hbi2).trans hd;have hbi3:=Zd hbi2 hbi.size;obtain⟨hd0,hux⟩:=HIb.out _ (Zt hdx);obtain⟨u,rfl⟩:=Za8 hd0;have hux:u<nx:=Ya;obtain⟨bx,ox,y,p0,p1,p2,p3,hax,hbx,hyy,yc0,yc1,yc2,yc3,hyv⟩:=HXr.out.pick (k:=u) (by rw[H3.out];exact hux);obtain⟨ya,yn,yc,yb,yan,ynn,ycn,yad,ynd,ycd,rfl,rfl,rfl,rfl⟩:=hyv.spell;have hxk:x.getD u zbq=y:=by rw[Zf,hyy];rfl
   have HStep:Hid (zap (ix.take (k+1)) x=zap (ix.take k) x++[y]):=by
    have h:=zhw (x:=x) hdx;rw[show((u:Int)).toNat=u from rfl,hxk]at h;exact h
   have HLn:Hid ((zap (ix.take k) x).length=k):=by unfold Hid;rw[zay,ZZ,H2.out];omega
   have HYv:=hid (hyv.val.below hbi);have hkI:(k:Int)<(ni:Int):=Ya;have huI:(u:Int)<(nx:Int):=Ya;rw[hai,hax];have yc0:=(hbi.cell (p:=⟨bx,ox+u*4,none⟩) hbx).trans yc0;have yc1:=(hbi.cell (p:=⟨bx,ox+u*4+1,none⟩) hbx).trans yc1;have yc2:=(hbi.cell (p:=⟨bx,ox+u*4+2,none⟩) hbx).trans yc2;have yc3:=(hbi.cell (p:=⟨bx,ox+u*4+3,none⟩) hbx).trans yc3;have hbx2:=Zd hbx hbi.size;have HRow:=hid (zdp.form HYv.out.fp 53);have hal:=blA wr (.cells #[.slice ya yn yc,.bool yb,.slice yan ynn ycn,.slice yad ynd ycd] 53);have HOX:=hid (HO.out.below hal);have HW1:=hid (show W1.heap.size<=(wr.alloc (.cells #[.slice ya yn yc,.bool yb,.slice yan ynn ycn,.slice yad ynd ycd] 53)).heap.size from HOX.out.bl.size);clear hyy hyv hxk hbi hal
   go_wp2_with (at_builtin;refine apF rfl (.tmp 23) (.tmp 31) rfl W1.heap.size (.slice b0 k c0) k (zap (ix.take k) x) HLn.out rfl HOX.out.own _ y HRow.out rfl Ya HW1.out ?_;intro b3 k3 w3 hown hk3 hg hbe hnx;have HO3:=hid (show zdZ W1 w3 (.slice b3 (k+1) k3) (zap (ix.take (k+1)) x)from⟨Xl,HOX.out.bl.trans hbe⟩);clear hown hg hbe hnx)
   exact Ib
  ·obtain rfl:k=ni:=Ya;have hOw:=HO.out;rw[ZQ (by rw[H2.out];exact Za _)]at hOw;have hvl:=zay ix x;rw[H2.out]at hvl;have hm2:(zap ix x).length<=c0:=by
    obtain⟨a2,m2,e2,hm2⟩:∃a c,(Value.slice b0 k c0)=.slice a (zap ix x).length c/\(zap ix x).length<=c:=hOw.own.form;injection e2 with _ _ e3
    rw[e3];exact hm2
   obtain⟨HS2,HL2,HR2,HX2⟩:=hd4 (Stp.of HO.out.bl HL1.out.lt) (HL1.out.below HO.out.bl) ((zfL.of hOw.own HL1.out hOw.bl).read VF) (HX1.out.below HO.out.bl);have HF2:=hid (HF1.out.stp HS2.out);have hbv:zcf D B N (zap ix x):=fun f hf=>by
    obtain⟨i,hi,rfl⟩:=ZX.1 hf;exact HBx.out.at hD _
   have HG:=hid (zjW (gG:=gG) hn hD hB hN HPy.out (zap ix x).length wr U (zap ix x) b0 c0 (by rw[hvl];exact he) HL2.out HR2.out hbv (by rw[hvl];exact h1) (Za _) (by rw[hvl];exact HU.out) hm2);rw[hvl]at HG;have HSw:=hid (HS1.out.trans HS2.out);clear hOw HO HR2 hbv;rw[<- HRe.out]at HG
   go_wp2_with fail
   refine HG.out.mono ?_
   rintro e w4 ⟨v4,rfl,hv4,hl4,hs4⟩;obtain⟨HX4,HF4⟩:=hd2 (HX2.out.stp HL2.out hs4 HF2.out) (HF2.out.stp hs4);obtain⟨ra,rn,rc,rb,ran,rnn,rcn,rad,rnd,rcd,rfl⟩:=hv4.spell;have HOo:=hid (zgR.ret (w:=w) hv4 hl4 HX4.out.al HF4.out (HSw.out.trans hs4) (Za _));obtain⟨r0,r1,r2,r3,rf,rlt⟩:=HX4.out.bx;clear hv4 hl4 hs4 HG;go_wp2;exact Zr Xu rfl HOo.out
theorem RatV.row1{W:World}{b:Bool}{an ad:Option Addr}{nn cn nd cd:Nat}{x:zaI}(h:RatV W (.agg #[.bool b,.slice an nn cn,.slice ad nd cd]) x)(T:Nat):zrA (W.alloc (.cells #[.bool b,.slice an nn cn,.slice ad nd cd] T)) (.slice (some ⟨W.heap.size,0,none⟩) 1 1) x:=by
 obtain⟨an',ad',cn',cd',e,h2,h3,h4,h5⟩:=h.ex;cases e;exact zrA.alloc h2 h3 h4 h5 T
theorem zoN{w:World}{D B N nx ni:Nat}{G:Value}{ai ax:Option Addr}{ix:List Int}{x:List zl}{F:Nat->Prop}(ci cx:Nat)(hN:N<=250000)(hD:0<D)
 (hI:z9 w F ai ix)(hX:zaN w ax x)(h2:ix.length=ni)(h3:x.length=nx)(h1:1<=ni)(hni:ni<=1000000)(hb:∀i∈ix,i<(nx:Int))(bx:zcf D B N x)(hP:Pay (ni*D) (1+B+(ni+1)*(1*B))):
  Calls Tryz.prog 65 #[G,.int .i64 4,.slice ai ni ci,.slice ax nx cx] w (zaE w (zce 0 (List.replicate ni (1/((ni:Int):Rat))) 0 ix x ni)):=by
 have x1:=zc9.alloc (zaA w) 53;have b1:=blA w (.cells #[.slice none 0 0,.bool false,.slice none 0 0,.slice none 0 0] 53);obtain⟨W1,hW1⟩:∃W1,W1=w.alloc (.cells #[.slice none 0 0,.bool false,.slice none 0 0,.slice none 0 0] 53):=⟨_,rfl⟩
 rw[<- hW1]at x1 b1;obtain⟨HW,HX1,HXr,HI0,HB1,H2⟩:=hd6 hW1 x1 (hX.below zaR b1) (hI.below b1) b1 h2;obtain⟨H3,HIb,HBx,HPy⟩:=hd4 h3 hb bx hP;obtain⟨q,hq⟩:∃q,q=1/((ni:Int):Rat):=⟨_,rfl⟩
 rw[<- hq];have HQ:=hid hq;obtain⟨R,hR⟩:∃R,R=zce 0 (List.replicate ni q) 0 ix x ni:=⟨_,rfl⟩
 rw[<- hR];have HRe:=hid hR;have HFr:Hid (∀X,Calls Tryz.prog 100 #[.int .i64 1,.int .i64 (ni:Int)] X (zlC X (zh q) 0)):=fun X=>by
  have h:=zru X 1 (ni:Int) Yb Yb Ya Ya Ya;rw[show(((1:Int):Rat))=1 from rfl,<- hq]at h;exact h
 clear hW1 x1 hI hX hb bx hP b1 h2 h3 hR hq
 go_enter Tryz.func65,Tryz.ntmps65
 go_upto_region 8 with fail
 rw[<- HW.out];clear HW
 go_wp2_with fail
 refine(HFr.out _).mono ?_
 rintro e w5 ⟨v5,rfl,hv,hb⟩;obtain⟨HX5,HXr5,HI5⟩:=hd3 (HX1.out.below hb) (HXr.out.below zaR hb) (HI0.out.below hb);have HB5:=htr HB1 hb;obtain⟨pb,pan,pnn,pcn,pad,pnd,pcd,e⟩:=hv.spell;cases e;obtain⟨HB6,HK6⟩:=hd2 ((Zg w5.heap.size w5).alloc (Za _) (.cells #[.bool pb,.slice pan pnn pcn,.slice pad pnd pcd] 51)) (zbn.alloc w5 (.bool pb) (.slice pan pnn pcn) (.slice pad pnd pcd) 51);obtain⟨HV6,HX6,HXr6,HI6⟩:=hd4 (hv.below HB6.out) (HX5.out.below HB6.out) (HXr5.out.below zaR HB6.out) (HI5.out.below HB6.out);have HB6w:=htr HB5 HB6.out;clear hv hb HFr HX1 HXr HI0 HB1 HX5 HXr5 HI5 HB5
 go_upto_region 9 with fail
 obtain⟨t0,t1,t2,tf,tlt⟩:=HK6.out;generalize w5.alloc (.cells #[.bool pb,.slice pan pnn pcn,.slice pad pnd pcd] 51)=W6 at *;have HTc:=hid (And.intro t0 (And.intro t1 t2));have hbt:w5.heap.size<W6.heap.size:=tlt;clear t0 t1 t2 tf tlt HK6;go_wp2
 go_loopw [13,14] (fun v i wr=>∃(k:Nat) (b0:Option Addr) (c0:Nat),k<=ni/\v=.slice b0 k c0/\i=.int .i64 (k:Int)/\Hid (zin wr W6.heap.size (.slice b0 k c0) (List.replicate k (zh q))/\Below W6.heap.size W6 wr)) (fun _ i _=>ni-(intOf i).toNat)
 case atStart=>exact⟨0,none,0,Zs _,rfl,rfl,zin.nil _ _,Zg _ _⟩
 case round=>
  obtain⟨k,b0,c0,hk,rfl,rfl,HO⟩:=hrel
  by_cases hlt:k<ni
  ·have hbr:=HO.out.2;obtain⟨k0,k1,k2⟩:=HTc.out;have t0:=(hbr.cell hbt).trans k0;have t1:=(hbr.cell hbt).trans k1;have t2:=(hbr.cell hbt).trans k2;have tlt:=Zd hbt hbr.size;have hal:=blA wr (.cells #[.bool pb,.slice pan pnn pcn,.slice pad pnd pcd] 51);obtain⟨HOw,HBl,HRow⟩:=hd3 (HO.out.1.below hal) (hbr.trans (hal.mono hbr.size)) (RatV.row1 (HV6.out.below hbr) 51);have HLn:Hid ((List.replicate k (zh q)).length=k):=Za1;have HStep:Hid (List.replicate (k+1) (zh q)=List.replicate k (zh q)++[zh q]):=List.replicate_succ';have hkI:(k:Int)<(ni:Int):=Ya;clear HO hbr hal k0 k1 k2
   go_wp2_with (at_builtin;refine zjG rfl (.tmp 48) (.tmp 50) 35 rfl W6.heap.size Tryz.underlying35 Tryz.infoRat (.slice b0 k c0) k _ HLn.out rfl HOw.out _ (zh q) HRow.out rfl Ya HBl.out.size ?_;intro b3 k3 w3 hown hk3 hg hbe;have HO3:=hid (show zin w3 W6.heap.size (.slice b3 (k+1) k3) (List.replicate (k+1) (zh q))/\Below W6.heap.size W6 w3 from⟨Xl,HBl.out.trans hbe⟩);clear hown hg hbe)
   exact Ib
  ·obtain rfl:k=ni:=Ya;have hbr:=HO.out.2;have hk0:0<k:=Ya;have hkC:((k:Int):Rat)=((k:Nat):Rat):=rfl;have hbq:Bd k 1 q:=by rw[HQ.out];exact Bd.inv hk0
   have HS:=hid (zns (W:=k) (C:=1) (D:=D) (B:=B) (N:=N) (nw:=k) (ni:=k) (nx:=nx) c0 ci cx (show RatV wr (.agg #[.bool false,.slice none 0 0,.slice none 0 0]) (zh 0)from by rw[zd5];exact⟨none,none,0,0,rfl,Za _,Za _,zt.nil _ _,zt.nil _ _⟩)
    (show zN wr b0 ((List.replicate k q).map zh)from by rw[List.map_replicate];exact HO.out.1.rats (by rw[Za1];omega)) (HI6.out.below hbr) (HXr6.out.below zaR hbr) Za1 H2.out H3.out (Za _) HIb.out
    (fun p hp=>by rw[Za4 hp];exact hbq) (Bd.zero hk0) hk0 HBx.out hD HPy.out hN)
   rw[<- HRe.out]at HS;have HXw:=hid (HX6.out.below hbr);have HBw:=htr HB6w hbr;clear HO hbr HX6 HB6w hkC hbq
   go_wp2_with fail
   refine HS.out.mono ?_
   rintro e w8 ⟨v8,rfl,hv,hb⟩;obtain⟨ra,rn,rc,rb,ran,rnn,rcn,rad,rnd,rcd,rfl⟩:=hv.spell;have hx8:=HXw.out.below hb;have HOo:=hid (hv.ret hx8.al (HBw.out.trans (hb.mono HBw.out.size)) (Za _));obtain⟨r0,r1,r2,r3,rf,rlt⟩:=hx8.bx;clear hv hb hx8 HS;go_wp2;exact Zr Xu rfl HOo.out
theorem zp0(q:Rat)(f g:zl):za2 1 (scA q f) (scA q g)=scA q (za2 1 f g):=by
 unfold scA za2 zbq;simp only
 congr 1
 ·refine zii (zdk _ _ _) (zdk _ _ _) fun v=>?_
  rw[zat,zat,zat,zat,zat,show zH [] v=0 from rfl]
  grind
 ·grind
theorem zqF(q:Rat):scA q zbq=zkq 0:=by
 have e:zeQ q [] []=[]:=zii (lo:=0) (lo':=0) (zdk _ _ _) trivial fun v=>by
  rw[zat,show zH [] v=0 from rfl];grind
 show(⟨zeQ q [] [],0+q*0⟩:zl)=⟨[],0⟩
 rw[e,Rat.mul_zero,Za0]
theorem znm{n:Nat}{q:Rat}{ix:List Int}{x:List zl}(hp:∀i∈ix,0<=i)(hn:ix.length<=n):∀k,k<=ix.length->zce 0 (List.replicate n q) 0 ix x k=scA q (zfJ (zap ix x) k)
 | 0,_=>by
  show zkq 0=scA q zbq
  rw[zqF]
 | k+1,hk=>by
  have hd:ix[k]? =some ix[k]:=Zn Ya;have hg:ix.getD k 0=ix[k]:=by rw[Zf,hd];rfl
  have hv:(zap ix x).getD k zbq=x.getD (ix[k]).toNat zbq:=by
   unfold zap;rw[Zf,ZV,hd];rfl
  have hw:(List.replicate n q).getD (0+k) 0=q:=by
   rw[ZO,Zf,List.getElem?_replicate,Zq Ya];rfl
  show(if 0<=ix.getD k 0 then _ else _)=scA q (za2 1 (zfJ (zap ix x) k) ((zap ix x).getD k zbq))
  rw[hg,Zq (hp _ (ZaR _)),hv,hw,znm hp hn k Ya,zp0]
theorem zpa{ix:List Int}{x:List zl}(hp:∀i∈ix,0<=i):zce 0 (List.replicate ix.length (1/((ix.length:Int):Rat))) 0 ix x ix.length=zdW (zap ix x):=by
 rw[znm hp (Za _) _ (Za _)];unfold zdW;rw[zay]
theorem zdZ.rebase{w W wr:World}{v:Value}{L:List zl}(h:zdZ W wr v L)(hb:Below w.heap.size w W):zdZ w wr v L:=⟨h.own.mono hb.size,hb.trans (h.bl.mono hb.size)⟩
theorem zou{w:World}{G:Value}{fr kh kw st pd:Int}{R W C D B N:Nat}{a1 a2 ax aS af:Option Addr}{bs ws:List Rat}{x:List zl}(c1 c2 cx nS cS nf cf:Nat)
 (hW:zN w a1 (ws.map zh))(hB:zN w a2 (bs.map zh))(hX:zaN w ax x)(h1:1<=x.length)(hRb:R<=bs.length)(hwl:R*x.length<=ws.length)(hc1:ws.length<=c1)(hR2:R<=1000000)(hx2:x.length<=1000000)
 (bw:BdL W C ws)(bb:BdL W C bs)(hW0:0<W)(bx:zcf D B N x)(hD0:0<D)(hP:Pay (W*D) (C+B+(x.length+1)*(C*B)))(hN:N<=250000):
  Calls Tryz.prog 37 #[G,zch 1 fr R kh kw st pd a1 ws.length c1 a2 bs.length c2,.slice aS nS cS,.slice ax x.length cx,.slice af nf cf] w (zgS w (zcL R bs ws x)):=by
 have hwl':=hW.len;have hbl':=hB.len;have hxl':=hX.len;simp only[ZP]at hwl' hbl';obtain⟨HW,HBi,HX,HBw,HBb,HBx0⟩:=hd6 hW hB hX bw bb bx;obtain⟨HPy,Hwl,HLB,HB1⟩:=hd4 hP hwl (zkI.alloc w 1 fr R kh kw st pd a1 ws.length c1 a2 bs.length c2 44) ((Zg w.heap.size w).alloc (Za _) (.cells #[.int .i64 1,.int .i64 fr,.int .i64 R,.int .i64 kh,.int .i64 kw,.int .i64 st,.int .i64 pd,.slice a1 ws.length c1,.slice a2 bs.length c2] 44));clear hW hB hX bw bb bx hP hwl;unfold zch
 go_enter Tryz.func37,Tryz.ntmps37
 go_upto_region 1 with fail
 generalize w.alloc (.cells #[.int .i64 1,.int .i64 fr,.int .i64 R,.int .i64 kh,.int .i64 kw,.int .i64 st,.int .i64 pd,.slice a1 ws.length c1,.slice a2 bs.length c2] 44)=W1 at *;have f0:=HLB.out.f0;go_wp2;clear f0
 go_loopw [12,13] (fun v i Wx=>∃(k:Nat) (a:Option Addr) (c:Nat),k<=x.length/\v=.slice a k c/\i=.int .i64 (k:Int)/\Hid (Wx.ownsRow W1.heap.size 3 1 (.slice a k c) k ((zcq k).map (Value.int .i64)))/\Hid (Below W1.heap.size W1 Wx)) (fun _ i _=>x.length-(intOf i).toNat)
 case atStart=>exact⟨0,none,0,Zs _,rfl,rfl,Zar _ _ _ _,Zg _ _⟩
 case round=>
  obtain⟨k,aI,cI,hk,rfl,rfl,HO,HBr⟩:=hrel
  by_cases hlt:k<x.length
  ·go_wp2_with (at_builtin;refine zal rfl (.tmp 70) (.tmp 72) 22 rfl W1.heap.size 3 (.int .i64 0) 8 Tryz.underlying22 Tryz.info3 rfl _ k _ rfl HO.out _ rfl rfl Ya Yh HBr.out.size ?_;intro v' w' hown hg hn;obtain⟨av,cv,rfl⟩:=zlT hown;have HOwn:=hid hown;have HBg:=hid (HBr.out.grown hg HBr.out.size (fun j hj=>(HO.out.lt j hj).1));clear hown hg hn)
   go_roundw
   case rel=>exact⟨k+1,av,cv,hlt,rfl,Yg,by rw[zlp,ZaW];exact HOwn.out,HBg.out⟩
   case measure=>simp[intOf];omega
  ·obtain rfl:k=x.length:=Ya;obtain⟨a',c',hv,hI⟩:=z9.own (l:=zcq x.length) (by rw[zdS];exact HO.out) (fun i hi=>by have:=zjc hi;omega) (by rw[zdS];omega);rw[zdS]at hv;obtain⟨rfl,rfl⟩:aI=a'/\cI=c':=by cases hv;exact⟨rfl,rfl⟩
   obtain⟨HI,HLx⟩:=hd2 (hI.below (Zg _ _)) (HLB.out.below HBr.out HLB.out.lt);have HBx:=htr HB1 HBr.out;clear hI hv HO HLB HB1 HBr
   rename World=>Wx
   have f2:=HLx.out.f2;go_wp2;clear f2
   go_loopw [11,14] (fun v i wr=>∃(k:Nat) (a:Option Addr) (c:Nat),k<=R/\v=.slice a k c/\i=.int .i64 (k:Int)/\Hid (zdZ Wx wr (.slice a k c) (zcL k bs ws x))) (fun _ i _=>R-(intOf i).toNat)
   case atStart=>exact⟨0,none,0,Zs _,rfl,rfl,zdZ.start Wx⟩
   case round=>
    obtain⟨k,b0,k0,hk,rfl,rfl,HOut⟩:=hrel;have HLr:=hid (HLx.out.below HOut.out.bl HLx.out.lt);have f2:=HLr.out.f2
    by_cases hlt:k<R
    ·obtain⟨p0,hp0⟩:∃p0,p0=k*x.length:=⟨_,rfl⟩
     obtain⟨p1,hp1⟩:∃p1,p1=(k+1)*x.length:=⟨_,rfl⟩
     have hmul:p1<=ws.length:=XK;have hp01:p1=p0+x.length:=XJ;obtain⟨bb,ob,u,un,ud,ucn,ucd,rfl,hbb,hu,uc0,uc1,uc2,huv⟩:=HBi.out.pick (k:=k) YB;obtain⟨bw,ow,_,_,_,_,_,rfl,hbw,_,_,_,_,_⟩:=HW.out.pick (k:=p0) YB;obtain⟨hu1,hu2⟩:=zel hu;obtain⟨s1,hs1⟩:∃s1,s1=zdH bs ws x k:=⟨_,rfl⟩
     have hsub:=HW.out.sub (lo:=p0) (n:=x.length) YB;rw[ziq]at hsub;have hbr:Below w.heap.size w wr:=HBx.out.trans (HOut.out.bl.mono HBx.out.size);have HSum:Hid (∀X,Below wr.heap.size wr X->Calls Tryz.prog 63 #[.agg #[.bool u.neg,.slice un u.num.length ucn,.slice ud u.den.length ucd],.slice (some ⟨bw,ow+p0*3,none⟩) x.length (c1-p0),.slice aI x.length cI,.slice ax x.length cx] X (zaE X s1)):=fun X hb=>by
      have hbw2:=hbr.trans (hb.mono hbr.size);have h:=zns (nw:=x.length) (ni:=x.length) (nx:=x.length) (c1-p0) cI cx (show RatV X (.agg #[.bool u.neg,.slice un u.num.length ucn,.slice ud u.den.length ucd]) (zh (bs.getD k 0))from by rw[<- hu2];exact huv.below hbw2) (hsub.below hbw2) (HI.out.below (HOut.out.bl.trans (hb.mono HOut.out.bl.size))) (HX.out.below zaR hbw2)
       (zeN Ya) (zdS _) rfl (Za _) (fun i hi=>by have:=zjc hi;omega) (HBw.out.part p0 x.length) (HBb.out.at hW0 k) hW0 HBx0.out hD0 HPy.out hN
      rw[<- zdX (Za _)]at h;rw[hs1];unfold zdH;rw[<- hp0];exact h
     have HCe:Hid (∀X,Below wr.heap.size wr X->X.cell? ⟨w.heap.size,7,none⟩=some (.slice (some ⟨bw,ow,none⟩) ws.length c1)/\X.cell? ⟨w.heap.size,8,none⟩=some (.slice (some ⟨bb,ob,none⟩) bs.length c2)/\
       X.cell? ⟨bb,ob+k*3,none⟩=some (.bool u.neg)/\X.cell? ⟨bb,ob+k*3+1,none⟩=some (.slice un u.num.length ucn)/\X.cell? ⟨bb,ob+k*3+2,none⟩=some (.slice ud u.den.length ucd)):=fun X hb=>by
      have hbw2:=hbr.trans (hb.mono hbr.size);have hL2:=HLr.out.below hb HLr.out.lt;exact⟨hL2.f7,hL2.f8,(hbw2.cell hbb).trans uc0,(hbw2.cell hbb).trans uc1,(hbw2.cell hbb).trans uc2⟩
     have HStep:Hid _:=zgP k bs ws x;rw[<- hs1]at HStep;have HLn:=hid (zcl k bs ws x);have hkb:k<bs.length:=Ya;have m0:IntKind.i64.wrap ((k:Int)*(x.length:Int))=(p0:Int):=T5;have HM1:Hid (Value.int .i64 (wrap64 (((k:Int)+1)*(x.length:Int)))=.int .i64 (p1:Int)):=by
      have e:((k:Int)+1)*(x.length:Int)=(p1:Int):=V6;unfold Hid;rw[e,IntWalk.wrap64_in _ Ya]
     have HP01:=hid hp01;have hp1p0:p0<=p1:=Ya;have hp0w:p0<ws.length:=Ya;clear hu hu1 hu2 hs1 hsub hbr uc0 uc1 uc2 huv hp0 hp1 hp01
     go_upto_region 21 with fail
     clear f2
     refine zah 22 Yc Yc Yc Yc Yb (zcm wr.heap.size wr) (fun w w'=>Below w.heap.size w w') (GP [SP.val (.slice b0 k k0),SP.val (.pointer (some ⟨w.heap.size,8,none⟩)),SP.val (.slice (some ⟨bb,ob,none⟩) bs.length c2),SP.val (.int .i64 (k:Int)),SP.val (.pointer (some ⟨bb,ob+k*3,none⟩)),SP.val (.agg #[.bool u.neg,.slice un u.num.length ucn,.slice ud u.den.length ucd]),SP.val (.pointer (some ⟨w.heap.size,7,none⟩)),SP.val (.slice (some ⟨bw,ow,none⟩) ws.length c1),SP.val (.int .i64 (k:Int)),SP.val (.slice ax x.length cx),SP.val (.int .i64 (x.length:Int)),SP.val (.int .i64 (p0:Int)),SP.val (.int .i64 (k:Int)),SP.val (.int .i64 ((k:Int)+1)),SP.val (.slice ax x.length cx),SP.val (.int .i64 (x.length:Int)),SP.val (.int .i64 (p1:Int)),SP.val (.slice (some ⟨bw,ow+p0*3,none⟩) x.length (c1-p0)),SP.val (.slice aI x.length cI),SP.val (.slice ax x.length cx),SP.frm s1,SP.onf s1]) (fun i v w w' h hb=>zd0 h hb) (zcm.start (Za _)) ?_ ?_
     ·intro ops hops;have HOps:=hid hops;clear hops;simp only[Zm,Zv,zbM]
      refine⟨?v0,?v1,?_,?v3,?_,?_,?v6,?_,?v8,?v9,?_,?_,?v12,?_,?v14,?_,?_,?_,?v18,?v19,?_,?_,trivial⟩
      all_goals (intro y' X hR hL;have hB:=hR.base)
      case v0|v1|v3|v6|v8|v9|v12|v14|v18|v19=>
       exact IZ
      ·obtain⟨f7,f8,u0,u1,u2⟩:=HCe.out X hR.be;exact Oy
      ·exact IV
      ·obtain⟨f7,f8,u0,u1,u2⟩:=HCe.out X hR.be;exact Oz
      ·obtain⟨f7,f8,u0,u1,u2⟩:=HCe.out X hR.be;exact O0
      ·simp only[zbd,Region.binds,Zj,Ze,Zi,GP,SP.val,SP.frm,SP.rat,SP.tru,SP.tup,SP.grv,SP.onf,Zc,Zb]at hL;simp[zg,Act.put];generalize y' 9=y9 at hL⊢;exact IM
      ·simp only[zbd,Region.binds,Zj,Ze,Zi,GP,SP.val,SP.frm,SP.rat,SP.tru,SP.tup,SP.grv,SP.onf,Zc,Zb]at hL;simp[zg,Act.put];generalize y' 8=y8 at hL⊢;generalize y' 10=y10 at hL⊢;exact IY
      ·simp only[zbd,Region.binds,Zj,Ze,Zi,GP,SP.val,SP.frm,SP.rat,SP.tru,SP.tup,SP.grv,SP.onf,Zc,Zb]at hL;simp[zg,Act.put];generalize y' 12=y12 at hL⊢;exact IM
      ·simp only[zbd,Region.binds,Zj,Ze,Zi,GP,SP.val,SP.frm,SP.rat,SP.tru,SP.tup,SP.grv,SP.onf,Zc,Zb]at hL;simp[zg,Act.put];generalize y' 14=y14 at hL⊢;exact IM
      ·simp only[zbd,Region.binds,Zj,Ze,Zi,GP,SP.val,SP.frm,SP.rat,SP.tru,SP.tup,SP.grv,SP.onf,Zc,Zb]at hL;simp[zg,Act.put];generalize y' 13=y13 at hL⊢;generalize y' 15=y15 at hL⊢;exact TZ
      ·simp only[zbd,Region.binds,Zj,Ze,Zi,GP,SP.val,SP.frm,SP.rat,SP.tru,SP.tup,SP.grv,SP.onf,Zc,Zb]at hL;simp[zg,Act.put];generalize y' 7=y7 at hL⊢;generalize y' 11=y11 at hL⊢;generalize y' 16=y16 at hL⊢;obtain⟨rfl,rfl,rfl,_⟩:=hL;have HR:=hid hR;clear hR;go_wp2
       first|refine⟨_,rfl,?_⟩|skip
       exact⟨HR.out,Zg _ _,by rw[show p1-p0=x.length from JD];rfl⟩
      ·simp only[zbd,Region.binds,Zj,Ze,Zi,GP,SP.val,SP.frm,SP.rat,SP.tru,SP.tup,SP.grv,SP.onf,Zc,Zb]at hL;simp[zg,Act.put];generalize y' 5=y5 at hL⊢;generalize y' 17=y17 at hL⊢;generalize y' 18=y18 at hL⊢;generalize y' 19=y19 at hL⊢;exact Od
      ·simp only[zbd,Region.binds,Zj,Ze,Zi,GP,SP.val,SP.frm,SP.rat,SP.tru,SP.tup,SP.grv,SP.onf,Zc,Zb]at hL;simp[zg,Act.put];generalize y' 20=y20 at hL⊢;obtain⟨H20,_⟩:=hL;obtain⟨K20,HR⟩:=hd2 H20 hR;clear hR H20;obtain⟨xa,xn,xc,xb,xan,xnn,xcn,xad,xnd,xcd,rfl⟩:=K20.out.spell;obtain⟨HRow,HBa⟩:=hd2 (zdp.form K20.out.fp 53) ((Zg X.heap.size X).alloc (Za _) (.cells #[.slice xa xn xc,.bool xb,.slice xan xnn xcn,.slice xad xnd xcd] 53));exact Ei
     ·intro ops y' X hR hL;have hB:=hR.base;have J0:=hL.1.1.1.1.1.1.1.1.1.1.1.1.1.1.1.1.1.1.1.1.1.2;have J21:=hL.2;simp only[GP,SP.val,SP.frm,SP.rat,SP.tru,SP.tup,SP.grv,SP.onf,Zc,Zb]at J0 J21;obtain⟨f7,f8,u0,u1,u2⟩:=HCe.out X hR.be;clear hL;simp only[Zm,Zv,ZD,ZN];simp[zg,Act.put];generalize y' 0=y0 at J0⊢;obtain rfl:=J0;generalize y' 21=y21 at J21⊢;have HR:=hid hR;clear hR;obtain⟨HO,HJ⟩:=hd2 (HOut.out.below (show Below wr.heap.size wr X from HR.out.be)) J21;clear J21
      go_wp2_with (at_builtin;refine apF rfl (.tmp 80) (.tmp 101) rfl Wx.heap.size (.slice b0 k k0) k _ HLn.out rfl HO.out.own _ s1 HJ.out rfl Ya HO.out.bl.size ?_;intro b3 k3 w3 hown hk3 hg hbe hnx;have HOut3:=hid (show zdZ Wx w3 (.slice b3 (k+1) k3) (zcL (k+1) bs ws x)from⟨Xl,HO.out.bl.trans hbe⟩);clear hown hg hbe hnx)
      exact Tx
    ·obtain rfl:k=R:=Ya;go_wp2;have hNP:zgS w (zcL k bs ws x) (.returned (.slice b0 k k0)) wr:=(HOut.out.rebase HBx.out).ret (zcl k bs ws x);exact Zr (v:=.slice b0 k k0) YA rfl hNP
theorem zqc{w:World}{G:Value}{W E D B N:Nat}{fr st pd:Int}{O KH KW C ck n T:Nat}{a1 a2 ax aS af:Option Addr}{bs ws:List Rat}{x:List zl}{sh:List Int}{win:List (List Int)}{F:Nat->Prop}(c1 c2 cx cS nf cf:Nat)
 (hW:zN w a1 (ws.map zh))(hB:zN w a2 (bs.map zh))(hX:zaN w ax x)(hS:z9 w F aS sh)(hC:sh[0]? =some (C:Int))(hck:ck=C*KH)(hn:n=ck*KW)(hck1:ck<=1000000)(hn1:1<=n)(hn2:n<=1000000)
 (hwin:(zA sh KH KW st pd).1=win)(hT:T=win.length)(hT2:T<=1000000)(hlen:∀ix∈win,ix.length=n)(hix:∀ix∈win,∀i∈ix,i<x.length)
 (hOb:O<=bs.length)(hwl:O*n<=ws.length)(hc1:ws.length<=c1)(hO2:O<=1000000)(hOT:O*T<=1000000)
 (hxl':x.length<=1000000)(bw:BdL W E ws)(bb:BdL W E bs)(hW0:0<W)(bx:zcf D B N x)(hD0:0<D)(hP:Pay (W*D) (E+B+(n+1)*(E*B)))(hN:N<=250000):
  Calls Tryz.prog 37 #[G,zch 2 fr O KH KW st pd a1 ws.length c1 a2 bs.length c2,.slice aS sh.length cS,.slice ax x.length cx,.slice af nf cf] w (zgS w (zcO (zbb bs ws n win x) T O 0)):=by
 have hwl':=hW.len;have hbl':=hB.len;simp only[ZP]at hwl' hbl';obtain⟨HW,HBi,HX,HBw,HBb,HBx0⟩:=hd6 hW hB hX bw bb bx;obtain⟨HPy,Hwl,HIx,HLen,HOT,HLB⟩:=hd6 hP hwl hix hlen hOT (zkI.alloc w 2 fr O KH KW st pd a1 ws.length c1 a2 bs.length c2 44);have hB1:=((Zg w.heap.size w).alloc (Za _) (.cells #[.int .i64 2,.int .i64 fr,.int .i64 O,.int .i64 KH,.int .i64 KW,.int .i64 st,.int .i64 pd,.slice a1 ws.length c1,.slice a2 bs.length c2] 44))
 have hsl:0<sh.length:=(Zu.1 hC).1;obtain⟨HWn,HB1⟩:=hd2 (zsf cS KH KW st pd (hS.below hB1)) hB1;obtain⟨bS,oS,d0,rfl,sc,hd0,_,hbS,_,_,_⟩:=hS.pick2 hsl;rw[hC]at hd0;cases hd0;have m0:IntKind.i64.wrap ((C:Int)*(KH:Int))=(ck:Int):=by rw[<- Zba,<- hck];exact IntWalk.i64_in _ Ya
 have m1:IntKind.i64.wrap ((ck:Int)*(KW:Int))=(n:Int):=Yz;obtain⟨HWin,HT⟩:=hd2 hwin hT;clear hW hB hX hS bw bb bx hP hwl hB1 hC hck hn hwin hix hlen hOT hT;unfold zch
 go_enter Tryz.func37,Tryz.ntmps37
 go_upto_region 1 with fail
 generalize w.alloc (.cells #[.int .i64 2,.int .i64 fr,.int .i64 O,.int .i64 KH,.int .i64 KW,.int .i64 st,.int .i64 pd,.slice a1 ws.length c1,.slice a2 bs.length c2] 44)=W1 at *;obtain⟨f0,f2,f3,f4,f5,f6,_,_,_⟩:=HLB.out
 go_wp2_with fail
 refine HWn.out.mono ?_
 rintro e Wx ⟨aw,cw,rfl,hI,hb⟩;rw[HWin.out]at hI⊢;rw[<- HT.out];generalize(zA sh KH KW st pd).2.1=e1 at *;generalize(zA sh KH KW st pd).2.2.1=e2 at *;generalize(zA sh KH KW st pd).2.2.2=e3 at *;obtain⟨HI,HLx⟩:=hd2 hI (HLB.out.below hb HLB.out.lt);have HBx:=htr HB1 hb;have sc:=(HBx.out.cell (p:=⟨bS,oS,none⟩) hbS).trans sc;clear f0 f2 f3 f4 f5 f6 hI hb HLB HB1 HWn;obtain⟨f0,f2,f3,f4,f5,f6,f7,f8,_⟩:=HLx.out;go_wp2
 go_quiet (fail)
 clear f0 f3 f4 f5 f6 f7 f8;go_wp2;have hdn:Below Wx.heap.size Wx (Wx.drewN nq):=below_drewN (Zg _ _) nq;obtain⟨HI,HLx⟩:=hd2 (HI.out.below hdn) (HLx.out.below hdn HLx.out.lt);have HBx:=htr HBx hdn;clear hdn sc f2;generalize Wx.drewN nq=Wy at *
 go_loopw [11,20] (fun v i wr=>∃(k m:Nat) (a:Option Addr) (c:Nat),k<=O/\Hid (m=k*T)/\v=.slice a m c/\i=.int .i64 (k:Int)/\Hid (zdZ Wy wr (.slice a m c) (zcO (zbb bs ws n win x) T k 0))) (fun _ i _=>O-(intOf i).toNat)
 case atStart=>exact⟨0,0,none,0,Zs _,Kx,rfl,rfl,zdZ.start Wy⟩
 case round=>
  obtain⟨k,m,b0,k0,hk,HM,rfl,rfl,HOut⟩:=hrel;have f2:=(HLx.out.below HOut.out.bl HLx.out.lt).f2
  by_cases hlt:k<O
  ·go_wp2;clear f2
   go_loopw [11,21] (fun v j wr=>∃(i m:Nat) (a:Option Addr) (c:Nat),i<=T/\Hid (m=k*T+i)/\v=.slice a m c/\j=.int .i64 (i:Int)/\Hid (zdZ Wy wr (.slice a m c) (zcO (zbb bs ws n win x) T k i))) (fun _ j _=>T-(intOf j).toNat)
   case atStart=>exact⟨0,m,b0,k0,Zs _,HM.out,rfl,rfl,HOut.out⟩
   case round=>
    clear HM HOut;obtain⟨i,m,b0,k0,hi0,HM,rfl,rfl,HOut⟩:=hrel;have HLr:=hid (HLx.out.below HOut.out.bl HLx.out.lt)
    by_cases hi:i<T
    ·obtain⟨p0,hp0⟩:∃p0,p0=k*n:=⟨_,rfl⟩
     obtain⟨p1,hp1⟩:∃p1,p1=(k+1)*n:=⟨_,rfl⟩
     have hmul:p1<=ws.length:=XK;have hp01:p1=p0+n:=XJ;have hmT:m+1<=1000000:=by
      have h1:(k+1)*T<=O*T:=Zp _ hlt;have h2:=HOT.out;exact Ec
     obtain⟨bb,ob,u,un,ud,ucn,ucd,rfl,hbb,hu,uc0,uc1,uc2,huv⟩:=HBi.out.pick (k:=k) YB;obtain⟨bw,ow,_,_,_,_,_,rfl,hbw,_,_,_,_,_⟩:=HW.out.pick (k:=p0) YB;obtain⟨bt,ot,l,ai,ci,rfl,tc0,hl,hlc,hIl,hbt,_⟩:=HI.out.pickc (k:=i) Xe;have hmem:=Zt hl;have hln:l.length=n:=HLen.out l hmem;rw[hln]at tc0;obtain⟨hu1,hu2⟩:=zel hu;obtain⟨s1,hs1⟩:∃s1,s1=zbb bs ws n win x k i:=⟨_,rfl⟩
     have hsub:=HW.out.sub (lo:=p0) (n:=n) YB;rw[ziq]at hsub;have hbr:Below w.heap.size w wr:=HBx.out.trans (HOut.out.bl.mono HBx.out.size);have HSum:Hid (∀X,Below wr.heap.size wr X->Calls Tryz.prog 63 #[.agg #[.bool u.neg,.slice un u.num.length ucn,.slice ud u.den.length ucd],.slice (some ⟨bw,ow+p0*3,none⟩) n (c1-p0),.slice ai n ci,.slice ax x.length cx] X (zaE X s1)):=fun X hb=>by
      have hbw2:=hbr.trans (hb.mono hbr.size);have h:=zns (nw:=n) (ni:=n) (nx:=x.length) (c1-p0) ci cx (show RatV X (.agg #[.bool u.neg,.slice un u.num.length ucn,.slice ud u.den.length ucd]) (zh (bs.getD k 0))from by rw[<- hu2];exact huv.below hbw2) (hsub.below hbw2) (hIl.below (HOut.out.bl.trans (hb.mono HOut.out.bl.size))) (HX.out.below zaR hbw2)
       (zeN Ya) hln rfl (Za _) (fun y hy=>HIx.out l hmem y hy) (HBw.out.part p0 n) (HBb.out.at hW0 k) hW0 HBx0.out hD0 HPy.out hN
      rw[<- zdX (Za _)]at h;have e:win.getD i []=l:=by rw[Zf,hl];rfl
      rw[hs1];unfold zbb;rw[<- hp0,e,hln];exact h
     have HCe:Hid (∀X,Below wr.heap.size wr X->X.cell? ⟨w.heap.size,7,none⟩=some (.slice (some ⟨bw,ow,none⟩) ws.length c1)/\X.cell? ⟨w.heap.size,8,none⟩=some (.slice (some ⟨bb,ob,none⟩) bs.length c2)/\
       X.cell? ⟨bb,ob+k*3,none⟩=some (.bool u.neg)/\X.cell? ⟨bb,ob+k*3+1,none⟩=some (.slice un u.num.length ucn)/\X.cell? ⟨bb,ob+k*3+2,none⟩=some (.slice ud u.den.length ucd)/\X.cell? ⟨bt,ot+i,none⟩=some (.slice ai n ci)):=fun X hb=>by
      have hbw2:=hbr.trans (hb.mono hbr.size);have hL2:=HLr.out.below hb HLr.out.lt;exact⟨hL2.f7,hL2.f8,(hbw2.cell hbb).trans uc0,(hbw2.cell hbb).trans uc1,(hbw2.cell hbb).trans uc2,((HOut.out.bl.trans (hb.mono HOut.out.bl.size)).cell (p:=⟨bt,ot+i,none⟩) hbt).trans tc0⟩
     have HStep:Hid _:=zhv (zbb bs ws n win x) T k i;rw[<- hs1]at HStep;have HLn:=hid ((zc6 (zbb bs ws n win x) T k i).trans HM.out.symm);have hkb:k<bs.length:=Ya;have m0:IntKind.i64.wrap ((k:Int)*(n:Int))=(p0:Int):=T5;have HM1:Hid (Value.int .i64 (wrap64 (((k:Int)+1)*(n:Int)))=.int .i64 (p1:Int)):=Ia;have HP01:=hid hp01;have hp1p0:p0<=p1:=Ya;have hp0w:p0<ws.length:=Ya;clear hu hu1 hu2 hs1 hsub hbr uc0 uc1 uc2 huv hp0 hp1 hp01 tc0 hl hmem hln hIl hlc
     go_upto_region 31 with fail
     refine zah 23 Yc Yc Yc Yc Yb (zcm wr.heap.size wr) (fun w w'=>Below w.heap.size w w') (GP [SP.val (.slice b0 m k0),SP.val (.pointer (some ⟨w.heap.size,8,none⟩)),SP.val (.slice (some ⟨bb,ob,none⟩) bs.length c2),SP.val (.int .i64 (k:Int)),SP.val (.pointer (some ⟨bb,ob+k*3,none⟩)),SP.val (.agg #[.bool u.neg,.slice un u.num.length ucn,.slice ud u.den.length ucd]),SP.val (.pointer (some ⟨w.heap.size,7,none⟩)),SP.val (.slice (some ⟨bw,ow,none⟩) ws.length c1),SP.val (.int .i64 (k:Int)),SP.val (.int .i64 (n:Int)),SP.val (.int .i64 (p0:Int)),SP.val (.int .i64 (k:Int)),SP.val (.int .i64 ((k:Int)+1)),SP.val (.int .i64 (n:Int)),SP.val (.int .i64 (p1:Int)),SP.val (.slice (some ⟨bw,ow+p0*3,none⟩) n (c1-p0)),SP.val (.slice (some ⟨bt,ot,none⟩) T cw),SP.val (.int .i64 (i:Int)),SP.val (.pointer (some ⟨bt,ot+i,none⟩)),SP.val (.slice ai n ci),SP.val (.slice ax x.length cx),SP.frm s1,SP.onf s1]) (fun i v w w' h hb=>zd0 h hb) (zcm.start (Za _)) ?_ ?_
     ·intro ops hops;have HOps:=hid hops;clear hops;simp only[Zm,Zv,zbM]
      refine⟨?v0,?v1,?_,?v3,?_,?_,?v6,?_,?v8,?v9,?_,?v11,?_,?v13,?_,?_,?v16,?v17,?_,?_,?v20,?_,?_,trivial⟩
      all_goals (intro y' X hR hL;have hB:=hR.base)
      case v0|v1|v3|v6|v8|v9|v11|v13|v16|v17|v20=>
       exact IZ
      ·obtain⟨f7,f8,u0,u1,u2,t0⟩:=HCe.out X hR.be;exact Oy
      ·exact IV
      ·obtain⟨f7,f8,u0,u1,u2,t0⟩:=HCe.out X hR.be;exact Oz
      ·obtain⟨f7,f8,u0,u1,u2,t0⟩:=HCe.out X hR.be;exact O0
      ·simp only[zbd,Region.binds,Zj,Ze,Zi,GP,SP.val,SP.frm,SP.rat,SP.tru,SP.tup,SP.grv,SP.onf,Zc,Zb]at hL;exact O7
      ·simp only[zbd,Region.binds,Zj,Ze,Zi,GP,SP.val,SP.frm,SP.rat,SP.tru,SP.tup,SP.grv,SP.onf,Zc,Zb]at hL;simp[zg,Act.put];generalize y' 11=y11 at hL⊢;exact IM
      ·simp only[zbd,Region.binds,Zj,Ze,Zi,GP,SP.val,SP.frm,SP.rat,SP.tru,SP.tup,SP.grv,SP.onf,Zc,Zb]at hL;simp[zg,Act.put];generalize y' 12=y12 at hL⊢;generalize y' 13=y13 at hL⊢;exact TZ
      ·simp only[zbd,Region.binds,Zj,Ze,Zi,GP,SP.val,SP.frm,SP.rat,SP.tru,SP.tup,SP.grv,SP.onf,Zc,Zb]at hL;simp[zg,Act.put];generalize y' 7=y7 at hL⊢;generalize y' 10=y10 at hL⊢;generalize y' 14=y14 at hL⊢;obtain⟨rfl,rfl,rfl,_⟩:=hL;have HR:=hid hR;clear hR;go_wp2
       first|refine⟨_,rfl,?_⟩|skip
       exact⟨HR.out,Zg _ _,Xo⟩
      ·simp only[zbd,Region.binds,Zj,Ze,Zi,GP,SP.val,SP.frm,SP.rat,SP.tru,SP.tup,SP.grv,SP.onf,Zc,Zb]at hL;simp[zg,Act.put];generalize y' 16=y16 at hL⊢;generalize y' 17=y17 at hL⊢;exact IY
      ·obtain⟨f7,f8,u0,u1,u2,t0⟩:=HCe.out X hR.be;simp only[zbd,Region.binds,Zj,Ze,Zi,GP,SP.val,SP.frm,SP.rat,SP.tru,SP.tup,SP.grv,SP.onf,Zc,Zb]at hL;simp[zg,Act.put];generalize y' 18=y18 at hL⊢;exact IM
      ·simp only[zbd,Region.binds,Zj,Ze,Zi,GP,SP.val,SP.frm,SP.rat,SP.tru,SP.tup,SP.grv,SP.onf,Zc,Zb]at hL;simp[zg,Act.put];generalize y' 5=y5 at hL⊢;generalize y' 15=y15 at hL⊢;generalize y' 19=y19 at hL⊢;generalize y' 20=y20 at hL⊢;exact Od
      ·simp only[zbd,Region.binds,Zj,Ze,Zi,GP,SP.val,SP.frm,SP.rat,SP.tru,SP.tup,SP.grv,SP.onf,Zc,Zb]at hL;simp[zg,Act.put];generalize y' 21=y21 at hL⊢;obtain⟨H21,_⟩:=hL;obtain⟨K21,HR⟩:=hd2 H21 hR;clear hR H21;obtain⟨xa,xn,xc,xb,xan,xnn,xcn,xad,xnd,xcd,rfl⟩:=K21.out.spell;obtain⟨HRow,HBa⟩:=hd2 (zdp.form K21.out.fp 53) ((Zg X.heap.size X).alloc (Za _) (.cells #[.slice xa xn xc,.bool xb,.slice xan xnn xcn,.slice xad xnd xcd] 53));exact Ei
     ·intro ops y' X hR hL;have hB:=hR.base;have J0:=hL.1.1.1.1.1.1.1.1.1.1.1.1.1.1.1.1.1.1.1.1.1.1.2;have J22:=hL.2;simp only[GP,SP.val,SP.frm,SP.rat,SP.tru,SP.tup,SP.grv,SP.onf,Zc,Zb]at J0 J22;obtain⟨f7,f8,u0,u1,u2,t0⟩:=HCe.out X hR.be;clear hL;simp only[Zm,Zv,ZD,ZN];simp[zg,Act.put];generalize y' 0=y0 at J0⊢;obtain rfl:=J0;generalize y' 22=y22 at J22⊢;have HR:=hid hR;clear hR;obtain⟨HO,HJ⟩:=hd2 (HOut.out.below (show Below wr.heap.size wr X from HR.out.be)) J22;clear J22
      go_wp2_with (at_builtin;refine apF rfl (.tmp 141) (.tmp 163) rfl Wy.heap.size (.slice b0 m k0) m _ HLn.out rfl HO.out.own _ s1 HJ.out rfl Ya HO.out.bl.size ?_;intro b3 k3 w3 hown hk3 hg hbe hnx;have HOut3:=hid (show zdZ Wy w3 (.slice b3 (m+1) k3) (zcO (zbb bs ws n win x) T k (i+1))from⟨Xl,HO.out.bl.trans hbe⟩);clear hown hg hbe hnx)
      go_roundw
      case rel=>exact⟨i+1,m+1,b3,k3,hi,by unfold Hid;have:=HM.out;omega,rfl,Yg,HOut3.out⟩
      case measure=>simp[intOf];omega
    ·obtain rfl:i=T:=Ya;go_wp2;go_roundw
     case rel=>exact⟨k+1,m,b0,k0,hlt,by unfold Hid;rw[Zaa];exact HM.out,rfl,Yg,by rw[<- zhx];exact HOut.out⟩
     case measure=>simp[intOf];omega
  ·obtain rfl:k=O:=Ya;go_wp2;have hmb:m<=9223372036854775807:=by have:=HM.out;have:=HOT.out;omega
   have hNP:zgS w (zcO (zbb bs ws n win x) T k 0) (.returned (.slice b0 m k0)) wr:=(HOut.out.rebase HBx.out).ret ((zc6 _ _ _ _).trans HM.out.symm);exact Zr (v:=.slice b0 m k0) YA rfl hNP
theorem zkI.stp{W W':World}{gG g:Nat}{kd fr ot kh kw st pd:Int}{a1:Option Addr}{n1 c1:Nat}{a2:Option Addr}{n2 c2:Nat}(h:zkI W g kd fr ot kh kw st pd a1 n1 c1 a2 n2 c2)(hf:Fre gG W g)(hs:Stp gG W W'):zkI W' g kd fr ot kh kw st pd a1 n1 c1 a2 n2 c2:=
 ⟨(hf.cell hs).trans h.f0,(hf.cell hs).trans h.f2,(hf.cell hs).trans h.f3,(hf.cell hs).trans h.f4,(hf.cell hs).trans h.f5,(hf.cell hs).trans h.f6,(hf.cell hs).trans h.f7,(hf.cell hs).trans h.f8,Zd h.lt hs.size⟩
theorem z9.stp1{w w':World}{gG:Nat}{a:Option Addr}{l:List Int}(h:z9 w (Fre gG w) a l)(hs:Stp gG w w'):z9 w' (Fre gG w') a l:=
 (h.frame hs.size fun b hf _=>hf.block hs).mono fun b _ hf=>hf.stp hs
theorem zkN{w:World}{gG n0:Nat}{KD fr ot st pd:Int}{KH KW C n T ln:Nat}{a1 a2 ax aS af:Option Addr}{x U:List zl}{sh:List Int}{win gs:List (List Int)}{G:List zl->List Int->List zl×zl}(n1 c1 n2 c2 cx cS nf cf:Nat)(hK:KD=3∨KD=4)
 (hG:LSt w gG n0 U)(hX:zci gG w ax x)(hS:z9 w (Fre gG w) aS sh)(hC:sh[0]? =some (C:Int))(hn:n=KH*KW)(hn1:1<=n)(hn2:n<=1000000)(hln:ln=C*n)(hln2:ln<=1000000)
 (hwin:(zA sh KH KW st 0).1=win)(hT:T=win.length)(hgs:gs=zbh C n win)(hT2:T<=1000000)(hlen:∀ix∈win,ix.length=ln)(hCT:C*T<=1000000)
 (hF:∀(X:World) (m:Nat) (a:Option Addr) (c:Nat) (g:List Int),gs[m]? =some g->g.length=n->LSt X gG n0 (zB G (gs.take m) U).1->z9 X (Fre gG X) a g->zci gG X ax x->
   Calls Tryz.prog 65 #[.pointer (some ⟨gG,0,none⟩),.int .i64 KD,.slice a n c,.slice ax x.length cx] X (zgR gG n0 X (G (zB G (gs.take m) U).1 g).1 (G (zB G (gs.take m) U).1 g).2)):
  Calls Tryz.prog 37 #[.pointer (some ⟨gG,0,none⟩),zch KD fr ot KH KW st pd a1 n1 c1 a2 n2 c2,.slice aS sh.length cS,.slice ax x.length cx,.slice af nf cf] w (zlO gG n0 w (zB G gs U).1 (zB G gs U).2):=by
 obtain⟨HG,HX,HLen,HLnE,HCT,HGs⟩:=hd6 hG hX hlen hln hCT hgs;obtain⟨HFn,HLB⟩:=hd2 hF (zkI.alloc w KD fr ot KH KW st pd a1 n1 c1 a2 n2 c2 44);have hB1:=((Zg w.heap.size w).alloc (Za _) (.cells #[.int .i64 KD,.int .i64 fr,.int .i64 ot,.int .i64 KH,.int .i64 KW,.int .i64 st,.int .i64 pd,.slice a1 n1 c1,.slice a2 n2 c2] 44))
 have HFw:=hid (hG.fresh hB1 (Za _) Yd);have hsl:0<sh.length:=(Zu.1 hC).1;obtain⟨HWn,HB1⟩:=hd2 (zsf cS KH KW st 0 (hS.below hB1)) hB1;obtain⟨bS,oS,d0,rfl,sc,hd0,_,hbS,hfS,_,_⟩:=hS.pick2 hsl;rw[hC]at hd0;cases hd0;have HFS:=hid hfS;have m1:IntKind.i64.wrap ((KH:Int)*(KW:Int))=(n:Int):=Yz;obtain⟨HWin,HT⟩:=hd2 hwin hT;clear hX hS hB1 hC hn hwin hlen hln hCT hT hG hgs hF hfS;unfold zch;obtain⟨RU,hRU⟩:∃RU,RU=zB G gs U:=⟨_,rfl⟩
 rw[<- hRU];have HRU:=hid hRU;clear hRU;obtain⟨K2,hK2⟩:∃K2,K2=KD:=⟨_,rfl⟩
 have HK2:=hid hK2;clear hK2
 rcases hK with rfl|rfl<;>(
  go_enter Tryz.func37,Tryz.ntmps37
  go_upto_region 1 with fail
  generalize w.alloc (.cells #[.int .i64 _,.int .i64 fr,.int .i64 ot,.int .i64 KH,.int .i64 KW,.int .i64 st,.int .i64 pd,.slice a1 n1 c1,.slice a2 n2 c2] 44)=W1 at *;obtain⟨f0,f2,f3,f4,f5,f6,_,_,_⟩:=HLB.out
  go_wp2_with fail
  refine HWn.out.mono ?_
  rintro e Wx ⟨aw,cw,rfl,hI,hb⟩;rw[HWin.out]at hI⊢;rw[<- HT.out];generalize(zA sh KH KW st 0).2.1=e1 at *;generalize(zA sh KH KW st 0).2.2.1=e2 at *;generalize(zA sh KH KW st 0).2.2.2=e3 at *;have HG1:=hid (HG.out.below HB1.out);obtain⟨HI,HLx⟩:=hd2 (hI.mono (fun b hb1 hb2=>HG1.out.fresh hb hb2 hb1)) (HLB.out.below hb HLB.out.lt);have HBx:=htr HB1 hb;have HFx:=hid (HFw.out.stp (Stp.of hb HG1.out.lt));have HSc:Hid (w.cell? ⟨bS,oS,none⟩=some (.int .i64 (C:Int))):=sc;have hwl:w.heap.size<Wx.heap.size:=HLx.out.lt;clear sc f0 f2 f3 f4 f5 f6 hI hb HLB HB1 HWn HFw HG1;obtain⟨f0,f2,f3,f4,f5,f6,f7,f8,_⟩:=HLx.out;go_wp2;clear f0 f2 f3 f4 f5 f6 f7 f8;obtain⟨HGy,HXy⟩:=hd2 (zcF.start (HG.out.below HBx.out)) (HX.out.stp HG.out (Stp.of HBx.out HG.out.lt));obtain⟨Wy,hWy⟩:∃Wy:World,Wy=Wx:=⟨_,rfl⟩
  subst hWy
  go_loopw [11,27] (fun v i wr=>∃(k m:Nat) (a:Option Addr) (c:Nat),k<=C/\Hid (m=k*T)/\v=.slice a m c/\i=.int .i64 (k:Int)/\Hid (zcF gG n0 Wy wr (.slice a m c) (zB G (gs.take m) U).2 (zB G (gs.take m) U).1)) (fun _ i _=>C-(intOf i).toNat)
  case atStart=>exact⟨0,0,none,0,Zs _,Kx,rfl,rfl,Kb⟩
  case round=>
   obtain⟨k,m,b0,k0,hk,HM,rfl,rfl,HOut⟩:=hrel;have sc:=(HFS.out.cell ((Stp.of HBx.out HG.out.lt).trans HOut.out.st)).trans HSc.out;have slt:=Zd hbS (Zl HBx.out.size HOut.out.st.size)
   by_cases hlt:k<C
   ·go_wp2;clear sc slt
    go_loopw [11,28] (fun v j wr=>∃(i m:Nat) (a:Option Addr) (c:Nat),i<=T/\Hid (m=k*T+i)/\v=.slice a m c/\j=.int .i64 (i:Int)/\Hid (zcF gG n0 Wy wr (.slice a m c) (zB G (gs.take m) U).2 (zB G (gs.take m) U).1)) (fun _ j _=>T-(intOf j).toNat)
    case atStart=>exact⟨0,m,b0,k0,Zs _,HM.out,rfl,rfl,HOut.out⟩
    case round=>
     clear HM HOut;obtain⟨i,m,b0,k0,hi0,HM,rfl,rfl,HOut⟩:=hrel
     by_cases hi:i<T
     ·obtain⟨p0,hp0⟩:∃p0,p0=k*n:=⟨_,rfl⟩
      obtain⟨p1,hp1⟩:∃p1,p1=(k+1)*n:=⟨_,rfl⟩
      have hmul:p1<=ln:=by rw[hp1,HLnE.out];exact Zp _ hlt
      have hp01:p1=p0+n:=XJ;have hmT:m+1<=1000000:=by
       have h1:(k+1)*T<=C*T:=Zp _ hlt;have h2:=HCT.out;exact Ec
      have HIr:=HI.out.stp HOut.out.st;obtain⟨bt,ot',l,ai,ci,haw',tc0,hl,hlc,hIl,hbt,hft⟩:=HIr.pickc (k:=i) Xe;have hmem:=Zt hl;have hlL:l.length=ln:=HLen.out l hmem;rw[hlL]at tc0 hlc;obtain⟨bi,oi,_,hai,_,_,_,_,_,_,_⟩:=hIl.pick2 (k:=0) Ya;rw[hai]at hIl;obtain⟨hsl2,hsub⟩:=hIl.sub (lo:=p0) (n:=n) Ya;obtain⟨ll,hll⟩:∃ll,ll=List.take n (List.drop p0 l):=⟨_,rfl⟩
      rw[<- hll]at hsl2 hsub;have hgm:gs[m]? =some ll:=Tm;obtain⟨HSub,HSl,HXr,HStep,HGm⟩:=hd5 hsub hsl2 (HXy.out.stp HGy.out.un HOut.out.st) (zd2 G hgm U) hgm;have HM1b:Hid (m+1=k*T+(i+1)):=XW;have hwr:=HOut.out.un;have HSum:Hid (∀X,Stp gG wr X->LSt X gG n0 (zB G (gs.take m) U).1->Calls Tryz.prog 65 #[.pointer (some ⟨gG,0,none⟩),.int .i64 K2,.slice (some ⟨bi,oi+p0,none⟩) n (ci-p0),.slice ax x.length cx] X (zgR gG n0 X (G (zB G (gs.take m) U).1 ll).1 (G (zB G (gs.take m) U).1 ll).2)):=fun X hs hl=>by
       rw[HK2.out];exact HFn.out X m (some ⟨bi,oi+p0,none⟩) (ci-p0) ll HGm.out HSl.out hl (HSub.out.stp1 hs) (HXr.out.stp hwr hs)
      obtain⟨U',f',hUf⟩:∃U' f',G (zB G (gs.take m) U).1 ll=(U',f'):=⟨_,_,rfl⟩
      rw[hUf]at HSum HStep;have hF0:=HFx.out.stp HOut.out.st;have hL0:=(HLx.out.stp HFx.out HOut.out.st)
      have HCe:Hid (∀X,Stp gG wr X->X.cell? ⟨w.heap.size,0,none⟩=some (.int .i64 K2)/\X.cell? ⟨bt,ot'+i,none⟩=some (.slice (some ⟨bi,oi,none⟩) ln ci)):=fun X hs=>
       ⟨by rw[HK2.out];exact(hF0.cell hs).trans hL0.f0,by rw[<- hai];exact(hft.cell hs).trans tc0⟩
      have HLm:Hid ((zB G (gs.take m) U).2.length=m):=Oo;have m0:IntKind.i64.wrap ((k:Int)*(n:Int))=(p0:Int):=T5;have HM1:Hid (Value.int .i64 (wrap64 (((k:Int)+1)*(n:Int)))=.int .i64 (p1:Int)):=Ia;have HP01:=hid hp01;have hp1p0:p0<=p1:=Ya;have hp0w:p0<ln:=Ya;have hwl0:=Zd hwl HOut.out.st.size;have hbt2:bt<wr.heap.size:=hbt;have hLun:LSt wr gG n0 (zB G (gs.take m) U).1:=HOut.out.un;subst haw';clear hl hmem hlL hIl hsl2 hsub hgm hp0 hp1 hp01 hll HIr hai hF0 hL0 hUf hwr tc0 hbt
      go_upto_region 42 with fail
      refine zK 19 Yc Yc Yc Yc Yb (zeb gG n0 wr (zB G (gs.take m) U).1 U' 17 [.val (.slice b0 m k0),.val (.pointer (some ⟨gG,0,none⟩)),.val (.pointer (some ⟨w.heap.size,0,none⟩)),.val (.int .i64 K2),.val (.slice (some ⟨bt,ot',none⟩) T cw),.val (.int .i64 (i:Int)),.val (.pointer (some ⟨bt,ot'+i,none⟩)),.val (.slice (some ⟨bi,oi,none⟩) ln ci),.val (.int .i64 (k:Int)),.val (.int .i64 (n:Int)),.val (.int .i64 (p0:Int)),.val (.int .i64 (k:Int)),.val (.int .i64 ((k:Int)+1)),.val (.int .i64 (n:Int)),.val (.int .i64 (p1:Int)),.val (.slice (some ⟨bi,oi+p0,none⟩) n (ci-p0)),.val (.slice ax x.length cx),.frm f',.onf f']) (fun g=>zeb.start YC g) ?_ ?_
      ·intro ops;simp only[Zm,Zv,zbZ]
       refine⟨?v0,?v1,?v2,?_,?v4,?v5,?_,?_,?v8,?v9,?_,?v11,?_,?v13,?_,?_,?v16,?_,?_,trivial⟩
       case v0|v1|v2|v4|v5|v8|v9|v11|v13|v16=>
        exact O5
       ·intro d y' X hJ hd hW;obtain⟨f0,t0⟩:=HCe.out X hJ.st;have hl0:=Zd hwl0 hJ.st.size;have hl1:=Zd hbt2 hJ.st.size;exact IC
       ·exact IK
       ·intro d y' X hJ hd hW;obtain⟨f0,t0⟩:=HCe.out X hJ.st;have hl0:=Zd hwl0 hJ.st.size;have hl1:=Zd hbt2 hJ.st.size;exact IT
       ·intro d y' X hJ hd hW;simp only[zaa,Region.binds,Zj,Ze,Zi,ZK,ZL]at hW;have h8:d 8=true:=Ye;have h9:d 9=true:=Ye;have J8:=hJ.all 8 h8;have J9:=hJ.all 9 h9;simp only[GU,Zc,Zb]at J8 J9;simp[zg,Act.put];generalize hg8:y' 8=y8;rw[hg8]at J8;generalize hg9:y' 9=y9;rw[hg9]at J9;clear hg8;obtain rfl:=J8;clear hg9;obtain rfl:=J9;have HJ:=hid hJ;clear hJ hd hW h8 h9;exact Ui
       ·intro d y' X hJ hd hW;simp only[zaa,Region.binds,Zj,Ze,Zi,ZK,ZL]at hW;have h11:d 11=true:=Ye;have J11:=hJ.all 11 h11;simp only[GU,Zc,Zb]at J11;simp[zg,Act.put];generalize hg11:y' 11=y11;rw[hg11]at J11;clear hg11;obtain rfl:=J11;have HJ:=hid hJ;clear hJ hd hW h11;exact Ui
       ·intro d y' X hJ hd hW;simp only[zaa,Region.binds,Zj,Ze,Zi,ZK,ZL]at hW;have h12:d 12=true:=Ye;have h13:d 13=true:=Ye;have J12:=hJ.all 12 h12;have J13:=hJ.all 13 h13;simp only[GU,Zc,Zb]at J12 J13;simp[zg,Act.put];generalize hg12:y' 12=y12;rw[hg12]at J12;generalize hg13:y' 13=y13;rw[hg13]at J13;clear hg12;obtain rfl:=J12;clear hg13;obtain rfl:=J13;have HJ:=hid hJ;clear hJ hd hW h12 h13;go_wp2
        first|exact⟨_,rfl,HJ.out.here Yb (HM1.out)⟩|exact HJ.out.here Yb (HM1.out)
       ·intro d y' X hJ hd hW;simp only[zaa,Region.binds,Zj,Ze,Zi,ZK,ZL]at hW;have h7:d 7=true:=Ye;have h10:d 10=true:=Ye;have h14:d 14=true:=Ye;have J7:=hJ.all 7 h7;have J10:=hJ.all 10 h10;have J14:=hJ.all 14 h14;simp only[GU,Zc,Zb]at J7 J10 J14;simp[zg,Act.put];generalize hg7:y' 7=y7;rw[hg7]at J7;generalize hg10:y' 10=y10;rw[hg10]at J10;generalize hg14:y' 14=y14;rw[hg14]at J14;clear hg7;obtain rfl:=J7;clear hg10;obtain rfl:=J10;clear hg14;obtain rfl:=J14;have HJ:=hid hJ;clear hJ hd hW h7 h10 h14;go_wp2
        first|exact⟨_,rfl,HJ.out.here Yb Xo⟩|exact HJ.out.here Yb Xo
       ·intro d y' X hJ hd hW;simp only[zaa,Region.binds,Zj,Ze,Zi,ZK,ZL]at hW;have h1:d 1=true:=Ye;have h3:d 3=true:=Ye;have h15:d 15=true:=Ye;have h16:d 16=true:=Ye;have J1:=hJ.all 1 h1;have J3:=hJ.all 3 h3;have J15:=hJ.all 15 h15;have J16:=hJ.all 16 h16;simp only[GU,Zc,Zb]at J1 J3 J15 J16;simp[zg,Act.put];generalize hg1:y' 1=y1;rw[hg1]at J1;generalize hg3:y' 3=y3;rw[hg3]at J3;generalize hg15:y' 15=y15;rw[hg15]at J15;generalize hg16:y' 16=y16;rw[hg16]at J16;clear hg1;obtain rfl:=J1;clear hg3;obtain rfl:=J3;clear hg15;obtain rfl:=J15;clear hg16;obtain rfl:=J16;obtain⟨HJ,HUnn⟩:=hd2 hJ (hJ.old hd);clear hJ hd hW h1 h3 h15 h16;have HCt:=hid (HSum.out X HJ.out.st HUnn.out);exact UA
       ·intro d y' X hJ hd hW;simp only[zaa,Region.binds,Zj,Ze,Zi,ZK,ZL]at hW;have h17:d 17=true:=Ye;have J17:=hJ.all 17 h17;simp only[GU,Zc,Zb]at J17;simp[zg,Act.put];generalize hg17:y' 17=y17;rw[hg17]at J17;clear hg17;have K17:=hid J17;clear J17;have HJ:=hid hJ;clear hJ hd hW h17;obtain⟨xa,xn,xc,xb,xan,xnn,xcn,xad,xnd,xcd,rfl⟩:=K17.out.spell;obtain⟨HRow,HBa⟩:=hd2 (zdp.form K17.out.fp 53) ((Zg X.heap.size X).alloc (Za _) (.cells #[.slice xa xn xc,.bool xb,.slice xan xnn xcn,.slice xad xnd xcd] 53));have HFr:=hid (HJ.out.un.fresh HBa.out (Za _) Yd);clear K17;exact Tz
      ·intro ops d y' X hA hJ;have J0:=hJ.all 0 (hA 0 Yb);have J18:=hJ.all 18 (hA 18 Yb);simp only[GU,Zc,Zb]at J0 J18;obtain⟨f0,t0⟩:=HCe.out X hJ.st;have hl0:=Zd hwl0 hJ.st.size;have hl1:=Zd hbt2 hJ.st.size;obtain⟨HLn,HSn⟩:=hd2 (hJ.new (hA 17 Yb)) hJ.st;clear hJ hA;simp only[Zm,Zv,ZD,ZN];simp[zg,Act.put];generalize y' 0=y0 at J0⊢;obtain rfl:=J0;generalize y' 18=y18 at J18⊢;have HG5:=hid (HOut.out.stp HSn.out HLn.out);obtain⟨HGe,HJ18⟩:=hd2 HG5.out.st.size J18.1;clear J18
       go_wp2_with (at_builtin;refine apF rfl (.tmp 199) (.tmp 217) rfl Wy.heap.size (.slice b0 m k0) m _ HLm.out rfl HG5.out.own.own _ f' HJ18.out rfl Ya HGe.out ?_;intro b3 k3 w3 hown hk3 hg hbe hnx;have HOut3:=hid (show zcF gG n0 Wy w3 (.slice b3 (m+1) k3) (zB G (gs.take (m+1)) U).2 (zB G (gs.take (m+1)) U).1 from Yx);clear hown hg hbe hnx)
       go_roundw
       case rel=>exact⟨i+1,m+1,b3,k3,hi,HM1b.out,rfl,Yg,HOut3.out⟩
       case measure=>simp[intOf];omega
     ·exact Td
   ·obtain rfl:k=C:=Ya;have e:gs.take m=gs:=ZQ YX;have HO:=HOut.out;rw[e,<- HRU.out]at HO;have HO:=hid HO;have hfl:RU.2.length=m:=by rw[HRU.out,zaQ,HGs.out,zdO,HM.out,HT.out]
    go_wp2;exact Zr (v:=.slice b0 m k0) YA rfl ((HO.out.rebase (Stp.of HBx.out HG.out.lt) HBx.out.size).ret hfl))
theorem zpN{w:World}{gG n0:Nat}{fr ot kh kw st pd:Int}{a1 a2 ax aS af:Option Addr}{x U:List zl}(n1 c1 n2 c2 cx nS cS nf cf:Nat)(hG:LSt w gG n0 U)(hX:zci gG w ax x)(hx2:x.length<=500000):
  Calls Tryz.prog 37 #[.pointer (some ⟨gG,0,none⟩),zch 6 fr ot kh kw st pd a1 n1 c1 a2 n2 c2,.slice aS nS cS,.slice ax x.length cx,.slice af nf cf] w (zlO gG n0 w (U) (x)):=by
 have HLB:=hid (zkI.alloc w 6 fr ot kh kw st pd a1 n1 c1 a2 n2 c2 44);have hB1:Below w.heap.size w (w.alloc (.cells #[.int .i64 6,.int .i64 fr,.int .i64 ot,.int .i64 kh,.int .i64 kw,.int .i64 st,.int .i64 pd,.slice a1 n1 c1,.slice a2 n2 c2] 44)):=(Zg w.heap.size w).alloc (Za _) _;obtain⟨HFw,HXy,HGy,HSw⟩:=hd4 (hG.fresh hB1 (Za _) Yd) (hX.stp hG (Stp.of hB1 hG.lt)) (zcF.start (hG.below hB1)) (Stp.of hB1 hG.lt);have hsz:w.heap.size<=(w.alloc (.cells #[.int .i64 6,.int .i64 fr,.int .i64 ot,.int .i64 kh,.int .i64 kw,.int .i64 st,.int .i64 pd,.slice a1 n1 c1,.slice a2 n2 c2] 44)).heap.size:=hB1.size;clear hB1 hG hX ;unfold zch;obtain⟨RU,hRU⟩:∃RU,RU=U:=⟨_,rfl⟩
 obtain⟨RO,hRO⟩:∃RO,RO=x:=⟨_,rfl⟩
 skip
 obtain⟨HRU,HRO⟩:=hd2 hRU hRO;clear hRU hRO
 go_enter Tryz.func37,Tryz.ntmps37
 go_upto_region 1 with fail
 generalize w.alloc (.cells #[.int .i64 6,.int .i64 fr,.int .i64 ot,.int .i64 kh,.int .i64 kw,.int .i64 st,.int .i64 pd,.slice a1 n1 c1,.slice a2 n2 c2] 44)=W1 at *;have f0:=HLB.out.f0;have flt:=HLB.out.lt;go_wp2;clear f0 flt
 go_loopw [11,29] (fun v i wr=>∃(k:Nat) (a:Option Addr) (c:Nat),k<=x.length/\v=.slice a k c/\i=.int .i64 (k:Int)/\Hid (zcF gG n0 W1 wr (.slice a k c) (x.take k) (U))) (fun _ i _=>x.length-(intOf i).toNat)
 case atStart=>exact⟨0,none,0,Zs _,rfl,rfl,XG⟩
 case round=>
  obtain⟨k,b0,k0,hk,rfl,rfl,HOut⟩:=hrel
  by_cases hlt:k<x.length
  ·have HXr:=HXy.out.stp HGy.out.un HOut.out.st;obtain⟨bx,ox,y,q0,q1,q2,q3,hax,hbx,hyy,yc0,yc1,yc2,yc3,hyv⟩:=HXr.at'.pick (k:=k) hlt;obtain⟨ya,yn,yc,yb,yan,ynn,ycn,yad,ynd,ycd,rfl,rfl,rfl,rfl⟩:=hyv.spell;have hxk:x.getD k zbq=y:=by rw[Zf,hyy];rfl
   have hLr:=HLB.out.stp HFw.out HOut.out.st;have hFr:=HFw.out.stp HOut.out.st;have hkI:(k:Int)<(x.length:Int):=Ya;obtain⟨R,hR⟩:∃R,R=y:=⟨_,rfl⟩
   have HStep:Hid (x.take (k+1)=x.take k++[R]):=by
    unfold Hid;rw[hR];exact zaZ hyy
   have HLm:Hid ((x.take k).length=k):=by unfold Hid;rw[ZZ];omega
   have hal0:=blA wr (.cells #[.slice ya yn yc,.bool yb,.slice yan ynn ycn,.slice yad ynd ycd] 53);obtain⟨HBx,HF2,HL2,HSw2⟩:=hd4 (zc9.alloc hyv 53) (HOut.out.un.fresh hal0 (Za _) Yd) (HOut.out.un.below hal0) (Stp.of hal0 HOut.out.un.lt);have f0:=(hFr.cell HSw2.out).trans hLr.f0;have flt:=Zd hLr.lt hal0.size;have HRe:=hid hR;rw[hax];clear hyy hLr hFr hR hal0 HXr 
   go_upto_region 7 with fail
   generalize wr.alloc (.cells #[.slice ya yn yc,.bool yb,.slice yan ynn ycn,.slice yad ynd ycd] 53)=W2 at *;clear yc0 yc1 yc2 yc3;have HG6:=hid (HOut.out.stp HSw2.out HL2.out);obtain⟨q0,q1,q2,q3,qf,qlt⟩:=HBx.out.bx;have hal:=blA W2 (.cells #[.slice ya yn yc,.bool yb,.slice yan ynn ycn,.slice yad ynd ycd] 53);obtain⟨HRow,HG5⟩:=hd2 (show zdp zaG (W2.alloc (.cells #[.slice ya yn yc,.bool yb,.slice yan ynn ycn,.slice yad ynd ycd] 53)) (.slice (some ⟨W2.heap.size,0,none⟩) 1 1) R from by rw[HRe.out];exact zdp.form HBx.out.fm 53) (HG6.out.below hal);have HGe:=hid HG5.out.st.size;clear hal HG6
   go_wp2_with (at_builtin;refine apF rfl (.tmp 58) (.tmp 60) rfl W1.heap.size (.slice b0 k k0) k _ HLm.out rfl HG5.out.own.own _ R HRow.out rfl Ya HGe.out ?_;intro b3 k3 w3 hown hk3 hg hbe hnx;have HOut3:=hid (show zcF gG n0 W1 w3 (.slice b3 (k+1) k3) (x.take (k+1)) (U)from Yx);clear hown hg hbe hnx)
   exact Tx
  ·obtain rfl:k=x.length:=Ya;have HO:=HOut.out;rw[Z3]at HO;have hfl:x.length=x.length:=by rfl
   have HO:=hid (show zcF gG n0 W1 wr (.slice b0 x.length k0) x U from by exact HO);exact Ej
theorem zqw{w:World}{gG n0:Nat}{fr ot kh kw st pd:Int}{a1 a2 ax aS af:Option Addr}{x U:List zl}(n1 c1 n2 c2 cx nS cS nf cf:Nat)(hG:LSt w gG n0 U)(hX:zci gG w ax x)(hx2:x.length<=500000)(hn:n0<=1000000)(hU:U.length+x.length<=1000000):
  Calls Tryz.prog 37 #[.pointer (some ⟨gG,0,none⟩),zch 5 fr ot kh kw st pd a1 n1 c1 a2 n2 c2,.slice aS nS cS,.slice ax x.length cx,.slice af nf cf] w (zlO gG n0 w ((zB (zaY n0) x U).1) ((zB (zaY n0) x U).2)):=by
 have HLB:=hid (zkI.alloc w 5 fr ot kh kw st pd a1 n1 c1 a2 n2 c2 44);have hB1:Below w.heap.size w (w.alloc (.cells #[.int .i64 5,.int .i64 fr,.int .i64 ot,.int .i64 kh,.int .i64 kw,.int .i64 st,.int .i64 pd,.slice a1 n1 c1,.slice a2 n2 c2] 44)):=(Zg w.heap.size w).alloc (Za _) _;obtain⟨HFw,HXy,HGy,HSw⟩:=hd4 (hG.fresh hB1 (Za _) Yd) (hX.stp hG (Stp.of hB1 hG.lt)) (zcF.start (hG.below hB1)) (Stp.of hB1 hG.lt);have hsz:w.heap.size<=(w.alloc (.cells #[.int .i64 5,.int .i64 fr,.int .i64 ot,.int .i64 kh,.int .i64 kw,.int .i64 st,.int .i64 pd,.slice a1 n1 c1,.slice a2 n2 c2] 44)).heap.size:=hB1.size;clear hB1 hG hX ;unfold zch;obtain⟨RU,hRU⟩:∃RU,RU=(zB (zaY n0) x U).1:=⟨_,rfl⟩
 obtain⟨RO,hRO⟩:∃RO,RO=(zB (zaY n0) x U).2:=⟨_,rfl⟩
 rw[<- hRU,<- hRO];obtain⟨HRU,HRO⟩:=hd2 hRU hRO;clear hRU hRO
 go_enter Tryz.func37,Tryz.ntmps37
 go_upto_region 1 with fail
 generalize w.alloc (.cells #[.int .i64 5,.int .i64 fr,.int .i64 ot,.int .i64 kh,.int .i64 kw,.int .i64 st,.int .i64 pd,.slice a1 n1 c1,.slice a2 n2 c2] 44)=W1 at *;have f0:=HLB.out.f0;have flt:=HLB.out.lt;go_wp2;clear f0 flt
 go_loopw [11,29] (fun v i wr=>∃(k:Nat) (a:Option Addr) (c:Nat),k<=x.length/\v=.slice a k c/\i=.int .i64 (k:Int)/\Hid (zcF gG n0 W1 wr (.slice a k c) ((zB (zaY n0) (x.take k) U).2) ((zB (zaY n0) (x.take k) U).1))) (fun _ i _=>x.length-(intOf i).toNat)
 case atStart=>exact⟨0,none,0,Zs _,rfl,rfl,XG⟩
 case round=>
  obtain⟨k,b0,k0,hk,rfl,rfl,HOut⟩:=hrel
  by_cases hlt:k<x.length
  ·have HXr:=HXy.out.stp HGy.out.un HOut.out.st;obtain⟨bx,ox,y,q0,q1,q2,q3,hax,hbx,hyy,yc0,yc1,yc2,yc3,hyv⟩:=HXr.at'.pick (k:=k) hlt;obtain⟨ya,yn,yc,yb,yan,ynn,ycn,yad,ynd,ycd,rfl,rfl,rfl,rfl⟩:=hyv.spell;have hxk:x.getD k zbq=y:=by rw[Zf,hyy];rfl
   have hLr:=HLB.out.stp HFw.out HOut.out.st;have hFr:=HFw.out.stp HOut.out.st;have hkI:(k:Int)<(x.length:Int):=Ya;obtain⟨Uk,hUk⟩:∃Uk,Uk=(zB (zaY n0) (x.take k) U).1:=⟨_,rfl⟩
   have hUl:Uk.length<=1000000:=by
    have h:=zc7 (zaY n0) 1 (x.take k) U (fun V b _=>VY);rw[<- hUk,ZZ]at h;omega
   have HUk:=hid hUk;obtain⟨R,hR⟩:∃R,R=za4 (n0+Uk.length):=⟨_,rfl⟩
   have HStep:Hid (zB (zaY n0) (x.take (k+1)) U=(Uk++[y],(zB (zaY n0) (x.take k) U).2++[R])):=by
    unfold Hid;rw[zd2 (zaY n0) hyy U,<- hUk,hR];rfl
   have HLm:Hid (((zB (zaY n0) (x.take k) U).2).length=k):=by unfold Hid;rw[zaQ,ZZ];omega
   have hal0:=blA wr (.cells #[.slice ya yn yc,.bool yb,.slice yan ynn ycn,.slice yad ynd ycd] 53);obtain⟨HBx,HF2,HL2,HSw2⟩:=hd4 (zc9.alloc hyv 53) (HOut.out.un.fresh hal0 (Za _) Yd) (HOut.out.un.below hal0) (Stp.of hal0 HOut.out.un.lt);have f0:=(hFr.cell HSw2.out).trans hLr.f0;have flt:=Zd hLr.lt hal0.size;have HUn:=hid (fun X (hl:LSt X gG n0 Uk) (hv:zai X (.agg #[.slice ya yn yc,.bool yb,.slice yan ynn ycn,.slice yad ynd ycd]) y)=>zmV hl hv hn hUl);rw[<- hR]at HUn;rw[<- hUk]at HL2;obtain⟨HYv,HRe⟩:=hd2 (hyv.val.below hal0) hR;rw[hax];clear hyy hLr hFr hR hal0 HXr hUk
   go_upto_region 8 with fail
   generalize wr.alloc (.cells #[.slice ya yn yc,.bool yb,.slice yan ynn ycn,.slice yad ynd ycd] 53)=W2 at *;clear yc0 yc1 yc2 yc3;obtain⟨q0,q1,q2,q3,qf,qlt⟩:=HBx.out.bx;have HUc:=hid (HUn.out W2 HL2.out HYv.out)
   go_wp2_with fail
   refine HUc.out.mono ?_
   rintro e X ⟨v5,rfl,hv5,hl5,hs5⟩;obtain⟨ra,rn,rc,rb,ran,rnn,rcn,rad,rnd,rcd,rfl⟩:=hv5.spell;obtain⟨HK,HB5,HSt5,HL5,HF5⟩:=hd5 hv5 (HBx.out.stp HL2.out hs5 HF2.out) hs5 hl5 (HF2.out.stp hs5);have f0:=((HFw.out.stp (HOut.out.st.trans (HSw2.out.trans hs5))).cell (Stp.refl gG X)).trans ((HLB.out.stp HFw.out (HOut.out.st.trans (HSw2.out.trans hs5))).f0);have flt:=Zd flt hs5.size;have hne6:w.heap.size≠wr.heap.size:=by have:=HLB.out.lt;have:=HOut.out.st.size;omega
   clear q0 q1 q2 q3 qf qlt hv5 hl5 hs5 HUc;obtain⟨q0,q1,q2,q3,qf,qlt⟩:=HB5.out.bx
   go_upto_region 11 with fail
   obtain⟨HL6,HB6,HS6⟩:=hd3 (HL5.out.store4 (p0:=.slice ra rn rc) (p1:=.bool rb) (p2:=.slice ran rnn rcn) (p3:=.slice rad rnd rcd) HF5.out HB5.out.al ⟨rfl,rfl,rfl,rfl⟩) (HB5.out.set HK.out.fp) (((HSw2.out.trans HSt5.out).store4 (p0:=.slice ra rn rc) (p1:=.bool rb) (p2:=.slice ran rnn rcn) (p3:=.slice rad rnd rcd) (Za _) HF5.out.ne));clear q0 q1 q2 q3 qf qlt HK HL5 HF5 HB5 HSt5;generalize(((X.setCell ⟨wr.heap.size,0,none⟩ (.slice ra rn rc)).setCell ⟨wr.heap.size,1,none⟩ (.bool rb)).setCell ⟨wr.heap.size,2,none⟩ (.slice ran rnn rcn)).setCell ⟨wr.heap.size,3,none⟩ (.slice rad rnd rcd)=W6 at *;have HG6:=hid (HOut.out.stp HS6.out HL6.out);obtain⟨q0,q1,q2,q3,qf,qlt⟩:=HB6.out.bx;have hal:=blA W6 (.cells #[.slice ra rn rc,.bool rb,.slice ran rnn rcn,.slice rad rnd rcd] 53);obtain⟨HRow,HG5⟩:=hd2 (zdp.form HB6.out.fm 53) (HG6.out.below hal);have HGe:=hid HG5.out.st.size;clear hal HB6 HL6 HS6 HG6
   go_wp2_with (at_builtin;refine apF rfl (.tmp 58) (.tmp 60) rfl W1.heap.size (.slice b0 k k0) k _ HLm.out rfl HG5.out.own.own _ R HRow.out rfl Ya HGe.out ?_;intro b3 k3 w3 hown hk3 hg hbe hnx;have HOut3:=hid (show zcF gG n0 W1 w3 (.slice b3 (k+1) k3) ((zB (zaY n0) (x.take (k+1)) U).2) ((zB (zaY n0) (x.take (k+1)) U).1)from Yx);clear hown hg hbe hnx)
   exact Tx
  ·obtain rfl:k=x.length:=Ya;have HO:=HOut.out;rw[Z3]at HO;have hfl:RO.length=x.length:=by rw[HRO.out];exact zaQ _ _ _
   have HO:=hid (show zcF gG n0 W1 wr (.slice b0 x.length k0) RO RU from by rw[HRO.out,HRU.out];exact HO);exact Ej
theorem zqv{w:World}{gG n0:Nat}{fr ot kh kw st pd:Int}{a1 a2 ax aS af:Option Addr}{x U:List zl}{y:List zl}{D B C N:Nat}(n1 c1 n2 c2 cx nS cS nf cf:Nat)(hG:LSt w gG n0 U)(hX:zci gG w ax x)(hx2:x.length<=500000)(hY:zci gG w af y)(hyl:y.length=nf)(hxy:x.length<=nf)(bx:zcf D B N x)(by':zcf D C N y)(hD:0<D)(hP:Pay D (B+C))(hN:N<=250000):
  Calls Tryz.prog 37 #[.pointer (some ⟨gG,0,none⟩),zch 7 fr ot kh kw st pd a1 n1 c1 a2 n2 c2,.slice aS nS cS,.slice ax x.length cx,.slice af nf cf] w (zlO gG n0 w (U) (zgY x y x.length)):=by
 have HLB:=hid (zkI.alloc w 7 fr ot kh kw st pd a1 n1 c1 a2 n2 c2 44);have hB1:Below w.heap.size w (w.alloc (.cells #[.int .i64 7,.int .i64 fr,.int .i64 ot,.int .i64 kh,.int .i64 kw,.int .i64 st,.int .i64 pd,.slice a1 n1 c1,.slice a2 n2 c2] 44)):=(Zg w.heap.size w).alloc (Za _) _;obtain⟨HFw,HXy,HYy,HYl,HXb,HYb⟩:=hd6 (hG.fresh hB1 (Za _) Yd) (hX.stp hG (Stp.of hB1 hG.lt)) (hY.stp hG (Stp.of hB1 hG.lt)) hyl bx by'
 obtain⟨HPy,HGy,HSw⟩:=hd3 hP (zcF.start (hG.below hB1)) (Stp.of hB1 hG.lt);have hsz:w.heap.size<=(w.alloc (.cells #[.int .i64 7,.int .i64 fr,.int .i64 ot,.int .i64 kh,.int .i64 kw,.int .i64 st,.int .i64 pd,.slice a1 n1 c1,.slice a2 n2 c2] 44)).heap.size:=hB1.size;clear hB1 hG hX hY hyl bx by' hP
 unfold zch;obtain⟨RU,hRU⟩:∃RU,RU=U:=⟨_,rfl⟩
 obtain⟨RO,hRO⟩:∃RO,RO=zgY x y x.length:=⟨_,rfl⟩
 rw[<- hRU,<- hRO];obtain⟨HRU,HRO⟩:=hd2 hRU hRO;clear hRU hRO
 go_enter Tryz.func37,Tryz.ntmps37
 go_upto_region 1 with fail
 generalize w.alloc (.cells #[.int .i64 7,.int .i64 fr,.int .i64 ot,.int .i64 kh,.int .i64 kw,.int .i64 st,.int .i64 pd,.slice a1 n1 c1,.slice a2 n2 c2] 44)=W1 at *;have f0:=HLB.out.f0;have flt:=HLB.out.lt;go_wp2;clear f0 flt
 go_loopw [11,29] (fun v i wr=>∃(k:Nat) (a:Option Addr) (c:Nat),k<=x.length/\v=.slice a k c/\i=.int .i64 (k:Int)/\Hid (zcF gG n0 W1 wr (.slice a k c) (zgY x y k) (U))) (fun _ i _=>x.length-(intOf i).toNat)
 case atStart=>exact⟨0,none,0,Zs _,rfl,rfl,XG⟩
 case round=>
  obtain⟨k,b0,k0,hk,rfl,rfl,HOut⟩:=hrel
  by_cases hlt:k<x.length
  ·have HXr:=HXy.out.stp HGy.out.un HOut.out.st;obtain⟨bx,ox,y_,q0,q1,q2,q3,hax,hbx,hyy,yc0,yc1,yc2,yc3,hyv⟩:=HXr.at'.pick (k:=k) hlt;obtain⟨ya,yn,yc,yb,yan,ynn,ycn,yad,ynd,ycd,rfl,rfl,rfl,rfl⟩:=hyv.spell;have hxk:x.getD k zbq=y_:=by rw[Zf,hyy];rfl
   have hLr:=HLB.out.stp HFw.out HOut.out.st;have hFr:=HFw.out.stp HOut.out.st;have hkI:(k:Int)<(x.length:Int):=Ya;have HYr:=HYy.out.stp HGy.out.un HOut.out.st;obtain⟨bf,off,z,s0,s1,s2,s3,haf,hbf,hzz,zc0,zc1,zc2,zc3,hzv⟩:=HYr.at'.pick (k:=k) (by rw[HYl.out];omega);obtain⟨za,zn,zc,zb,zan,znn,zcn,zad,znd,zcd,rfl,rfl,rfl,rfl⟩:=hzv.spell;have hyk:y.getD k zbq=z:=by rw[Zf,hzz];rfl
   have hkf:(k:Int)<(nf:Int):=Ya;obtain⟨R,hR⟩:∃R,R=za2 1 y_ z:=⟨_,rfl⟩
   have HStep:Hid (zgY x y (k+1)=zgY x y k++[R]):=by
    unfold Hid;rw[zi2,hxk,hyk,hR]
   have HLm:Hid ((zgY x y k).length=k):=by unfold Hid;exact zd8 _ _ _
   have hal0:=blA wr (.cells #[.slice ya yn yc,.bool yb,.slice yan ynn ycn,.slice yad ynd ycd] 53);obtain⟨HBx,HF2,HL2,HSw2⟩:=hd4 (zc9.alloc hyv 53) (HOut.out.un.fresh hal0 (Za _) Yd) (HOut.out.un.below hal0) (Stp.of hal0 HOut.out.un.lt);have f0:=(hFr.cell HSw2.out).trans hLr.f0;have flt:=Zd hLr.lt hal0.size;have hbY:=HXb.out.at hD k;rw[hxk]at hbY;have hbZ:=HYb.out.at hD k;rw[hyk]at hbZ;have HAd0:=hid (fun X (hv:zai X (.agg #[.slice ya yn yc,.bool yb,.slice yan ynn ycn,.slice yad ynd ycd]) y_) (hz:zai X (.agg #[.slice za zn zc,.bool zb,.slice zan znn zcn,.slice zad znd zcd]) z)=>znU hv hz hbY hbZ HPy.out hN);rw[<- hR]at HAd0;obtain⟨HYv,HZv⟩:=hd2 (hyv.val.below hal0) (hzv.val.below hal0);have zc0:=(hal0.cell hbf).trans zc0;have zc1:=(hal0.cell hbf).trans zc1;have zc2:=(hal0.cell hbf).trans zc2;have zc3:=(hal0.cell hbf).trans zc3;have hbf2:=Zd hbf hal0.size;rw[haf];have HRe:=hid hR;rw[hax];clear hyy hLr hFr hR hal0 HXr hzz hbY hbZ HYr
   go_upto_region 10 with fail
   generalize wr.alloc (.cells #[.slice ya yn yc,.bool yb,.slice yan ynn ycn,.slice yad ynd ycd] 53)=W2 at *;clear yc0 yc1 yc2 yc3;obtain⟨q0,q1,q2,q3,qf,qlt⟩:=HBx.out.bx;have HAdd:Hid (∀X,Below W2.heap.size W2 X->Calls Tryz.prog 48 #[.agg #[.slice ya yn yc,.bool yb,.slice yan ynn ycn,.slice yad ynd ycd],.agg #[.slice za zn zc,.bool zb,.slice zan znn zcn,.slice zad znd zcd]] X (zaE X R)):=fun X hb=>HAd0.out X (HYv.out.below hb) (HZv.out.below hb)
   have HCe:Hid (∀X,Below W2.heap.size W2 X->X.cell? ⟨wr.heap.size,0,none⟩=some (.slice ya yn yc)/\X.cell? ⟨wr.heap.size,1,none⟩=some (.bool yb)/\X.cell? ⟨wr.heap.size,2,none⟩=some (.slice yan ynn ycn)/\X.cell? ⟨wr.heap.size,3,none⟩=some (.slice yad ynd ycd)/\wr.heap.size<X.heap.size/\
     X.cell? ⟨bf,off+k*4,none⟩=some (.slice za zn zc)/\X.cell? ⟨bf,off+k*4+1,none⟩=some (.bool zb)/\X.cell? ⟨bf,off+k*4+2,none⟩=some (.slice zan znn zcn)/\X.cell? ⟨bf,off+k*4+3,none⟩=some (.slice zad znd zcd)/\bf<X.heap.size):=fun X hb=>
    ⟨(hb.cell qlt).trans q0,(hb.cell qlt).trans q1,(hb.cell qlt).trans q2,(hb.cell qlt).trans q3,Zd qlt hb.size,(hb.cell hbf2).trans zc0,(hb.cell hbf2).trans zc1,(hb.cell hbf2).trans zc2,(hb.cell hbf2).trans zc3,Zd hbf2 hb.size⟩
   clear q0 q1 q2 q3 qf qlt zc0 zc1 zc2 zc3 f0 flt
   refine zah 6 Yc Yc Yc Yc Yb (zcm W2.heap.size W2) (fun w w'=>Below w.heap.size w w') (GP [SP.val (.agg #[.slice ya yn yc,.bool yb,.slice yan ynn ycn,.slice yad ynd ycd]),SP.val (.slice (some ⟨bf,off,none⟩) nf cf),SP.val (.int .i64 (k:Int)),SP.val (.pointer (some ⟨bf,off+k*4,none⟩)),SP.val (.agg #[.slice za zn zc,.bool zb,.slice zan znn zcn,.slice zad znd zcd]),SP.frm R]) (fun i v w w' h hb=>zd0 h hb) (zcm.start (Za _)) ?_ ?_
   ·intro ops hops;have HOps:=hid hops;clear hops;simp only[Zm,Zv,zbM]
    refine⟨?_,?v1,?v2,?_,?_,?_,trivial⟩
    all_goals (intro y' X hR hL;have hB:=hR.base)
    case v1|v2=>
     exact IF
    ·obtain⟨y0,y1,y2,y3,ylt,z0,z1,z2,z3,zlt⟩:=HCe.out X hR.be;exact IF
    ·simp only[zbd,Region.binds,Zj,Ze,Zi,GP,SP.val,SP.frm,SP.rat,SP.tru,SP.tup,SP.grv,Zc,Zb]at hL;simp[zg,Act.put];generalize y' 1=y1 at hL⊢;generalize y' 2=y2 at hL⊢;exact IY
    ·obtain⟨y0,y1,y2,y3,ylt,z0,z1,z2,z3,zlt⟩:=HCe.out X hR.be;simp only[zbd,Region.binds,Zj,Ze,Zi,GP,SP.val,SP.frm,SP.rat,SP.tru,SP.tup,SP.grv,Zc,Zb]at hL;simp[zg,Act.put];generalize y' 3=y3 at hL⊢;exact IM
    ·simp only[zbd,Region.binds,Zj,Ze,Zi,GP,SP.val,SP.frm,SP.rat,SP.tru,SP.tup,SP.grv,Zc,Zb]at hL;simp[zg,Act.put];generalize y' 0=y0 at hL⊢;generalize y' 4=y4 at hL⊢;obtain⟨rfl,rfl,_⟩:=hL;have HR:=hid hR;clear hR;have HCt:=hid (HAdd.out X HR.out.be);exact Uh
   ·intro ops y' X hR hL;have hB:=hR.base;have J5:=hL.2;simp only[GP,SP.val,SP.frm,SP.rat,SP.tru,SP.tup,SP.grv,Zc,Zb]at J5;obtain⟨y0,y1,y2,y3,ylt,z0,z1,z2,z3,zlt⟩:=HCe.out X hR.be;clear hL;simp only[Zm,Zv,ZD,ZN];simp[zg,Act.put];generalize y' 5=y5 at J5⊢;have HR:=hid hR;clear hR;obtain⟨ra,rn,rc,rb,ran,rnn,rcn,rad,rnd,rcd,rfl⟩:=J5.spell;have hX2:Below W2.heap.size W2 X:=HR.out.be;obtain⟨HK,HB5,HSt5,HL5⟩:=hd4 J5 (HBx.out.below hX2) ((Stp.of hX2 HL2.out.lt)) (HL2.out.below hX2);have HF5:=hid (HF2.out.stp HSt5.out);obtain⟨q0,q1,q2,q3,qf,qlt⟩:=HB5.out.bx;clear J5 y0 y1 y2 y3 ylt z0 z1 z2 z3 zlt hX2 HAdd HCe
    go_upto_region 11 with fail
    obtain⟨HL6,HB6,HS6⟩:=hd3 (HL5.out.store4 (p0:=.slice ra rn rc) (p1:=.bool rb) (p2:=.slice ran rnn rcn) (p3:=.slice rad rnd rcd) HF5.out HB5.out.al ⟨rfl,rfl,rfl,rfl⟩) (HB5.out.set HK.out.fp) (((HSw2.out.trans HSt5.out).store4 (p0:=.slice ra rn rc) (p1:=.bool rb) (p2:=.slice ran rnn rcn) (p3:=.slice rad rnd rcd) (Za _) HF5.out.ne));clear q0 q1 q2 q3 qf qlt HK HL5 HF5 HB5 HSt5;generalize(((X.setCell ⟨wr.heap.size,0,none⟩ (.slice ra rn rc)).setCell ⟨wr.heap.size,1,none⟩ (.bool rb)).setCell ⟨wr.heap.size,2,none⟩ (.slice ran rnn rcn)).setCell ⟨wr.heap.size,3,none⟩ (.slice rad rnd rcd)=W6 at *;have HG6:=hid (HOut.out.stp HS6.out HL6.out);obtain⟨q0,q1,q2,q3,qf,qlt⟩:=HB6.out.bx;have hal:=blA W6 (.cells #[.slice ra rn rc,.bool rb,.slice ran rnn rcn,.slice rad rnd rcd] 53);obtain⟨HRow,HG5⟩:=hd2 (zdp.form HB6.out.fm 53) (HG6.out.below hal);have HGe:=hid HG5.out.st.size;clear hal HB6 HL6 HS6 HG6
    go_wp2_with (at_builtin;refine apF rfl (.tmp 58) (.tmp 60) rfl W1.heap.size (.slice b0 k k0) k _ HLm.out rfl HG5.out.own.own _ R HRow.out rfl Ya HGe.out ?_;intro b3 k3 w3 hown hk3 hg hbe hnx;have HOut3:=hid (show zcF gG n0 W1 w3 (.slice b3 (k+1) k3) (zgY x y (k+1)) (U)from Yx);clear hown hg hbe hnx)
    exact Tx
  ·obtain rfl:k=x.length:=Ya;have HO:=HOut.out
   skip
   have hfl:RO.length=x.length:=by rw[HRO.out];exact zd8 _ _ _
   have HO:=hid (show zcF gG n0 W1 wr (.slice b0 x.length k0) RO RU from by rw[HRO.out,HRU.out];exact HO);exact Ej
theorem zkt{C n k:Nat}{win:List (List Int)}{g:List Int}(h:∀ix∈win,∀i∈ix,0<=i/\i<(k:Int))(hg:g∈zbh C n win):∀i∈g,0<=i/\i<(k:Int):=by
 unfold zbh at hg;obtain⟨ch,_,hg⟩:=Zbf.1 hg;obtain⟨j,hj,rfl⟩:=ZX.1 hg;intro i hi;have hm:=zgi hi;have hlt:=Z5.1 hj;rw[Zf,Zn hlt]at hm;exact h _ (ZaR hlt) i hm
theorem zoS{w:World}{gG nI:Nat}{l:zae}{s:List Int}{x y U:List zl}{D B N nY:Nat}{b1 b2 aS ax aY:Option Addr}(d1 d2 cS cx cY:Nat)(hG:LSt w gG nI U)(hf:zqN l s)(hn:zem l=true)(hx:(x.length:Int)=zJ s)(hxl:x.length<=16384)(hx1:1<=x.length)
 (hc1:l.weights.length<=d1)(h1:zN w b1 l.weights)(h2:zN w b2 l.bias)(hS:z9 w (Fre gG w) aS s)(hX:zci gG w ax x)
 (h7:l.kind=7->zci gG w aY y/\y.length=nY/\x.length<=nY)
 (hsm:zdM l)(hxB:zcf D B N x)(hyB:zcf D B N y)(hD:0<D)(hB:1<=B)(hR:zp2 D B)(hN5:N<=250000)(hN:nI+(zam nI U l s x y).1.length<=N):
  Calls Tryz.prog 37 #[.pointer (some ⟨gG,0,none⟩),zch l.kind l.frm l.out l.kh l.kw l.stride l.pad b1 l.weights.length d1 b2 l.bias.length d2,.slice aS s.length cS,.slice ax x.length cx,.slice aY nY cY] w (zpF gG nI w (zam nI U l s x y).1 (zam nI U l s x y).2):=by
 unfold zem at hn;rw[Zw]at hn;have hw:l.weights=(wq l).map zh:=zbL hn.1;have hb:l.bias=(bq l).map zh:=zbL hn.2;have hwl:l.weights.length=(wq l).length:=by simp[wq]
 have hbl:l.bias.length=(bq l).length:=by simp[bq]
 have pp:D*1<=D*WQ:=ZT _ zeH;rw[Zbp]at pp;have hBB:B<=9671406556917033397649408*B:=Ya;rw[hw]at h1;rw[hb]at h2;have wide:∀W:Nat,W<=4294967296^(wq l++bq l).length->W*D<=D*WQ:=fun W h=>by
  rw[Zz];exact ZT _ (zkP h hsm.len)
 obtain⟨W,w1,w2,w3⟩:=BdL.small _ hsm.num;have hwW:BdL W 18446744073709551616 (wq l):=fun q hq=>w3 q (Zbt _ hq)
 have hbW:BdL W 18446744073709551616 (bq l):=fun q hq=>w3 q (List.mem_append_right _ hq)
 have hWD:=wide W w2;rw[hwl]at hc1;rw[hwl,hbl];have hlen:=hsm.len;rw[ZB]at hlen;have payW:∀k:Nat,k<=16385*16->Pay (W*D) (18446744073709551616+B+(k+1)*(18446744073709551616*B)):=fun k hk=>hR.pay hWD (by
  exact ET)
 unfold zam at hN⊢
 cases hf with
 | dense R hk ho h1' h2' hb' hw'=>
  rw[Zq hk,ho];have e:(zJ s).toNat=x.length:=Ya;rw[e]at hw';have eR:(bq l).length=R:=Ya;have eN:R*x.length=(wq l).length:=by rw[<- hw',hwl]
  rw[hk];have h:=(zou (G:=.pointer (some ⟨gG,0,none⟩)) (fr:=l.frm) (kh:=l.kh) (kw:=l.kw) (st:=l.stride) (pd:=l.pad) (R:=R) (aS:=aS) (af:=aY) d1 d2 cx s.length cS nY cY h1 h2 hX.at' hx1 (Zbq eR.symm) (Zbq eN) hc1 Ya Ya hwW hbW w1 hxB hD (payW _ Ya) hN5).mono fun e w' h=>(h.un hG).x (by rw[zcl];omega)
  rw[ziX]at h;exact h
 | conv q O hk hq ht hs' e1 e2 e3 e4 ho h1' hb' hw' hwin hz=>
  have hbd:=Win.len_bd hq ht;rw[q.one_len]at hbd;have hal:=q.all_len;have hkk:=ZM q.C q.kh q.kw;have hsz:x.length=q.C*q.H*q.W:=UL;have hC:s.getD 0 0=(q.C:Int):=Xx;rw[Zh Ya,Zq hk,hwin,hC,ho,e1,e2];simp only[ZaM];have eO:(bq l).length=O:=Ya;have eN:O*(q.C*q.kh*q.kw)=(wq l).length:=by rw[<- hwl,hw']
  have hln:∀ix∈q.all,ix.length=q.C*q.kh*q.kw:=by rw[hkk];exact q.all_one_len'
  have hOT:O*q.all.length<=1000000:=by rw[hal];omega
  have hpos:1<=q.C*q.kh*q.kw:=Zaw (Zaw hq.c1 hq.kh1) hq.kw1;rw[hk];have h:=(zqc (G:=.pointer (some ⟨gG,0,none⟩)) (fr:=l.frm) (st:=l.stride) (pd:=l.pad) (O:=O) (KH:=q.kh) (KW:=q.kw) (C:=q.C) (ck:=q.C*q.kh) (n:=q.C*q.kh*q.kw) (T:=q.all.length) (win:=q.all) (af:=aY) d1 d2 cx cS nY cY h1 h2 hX.at' hS Xx rfl rfl
   (by have:=ZaN (q.C*q.kh) hq.kw1;rw[hkk]at this;omega) hpos VG (by rw[<- e1,<- e2,hwin]) rfl (Zl hbd.1 Yb) hln (by rw[hsz];exact hq.all_lt) (Zbq eO.symm) (Zbq eN) hc1 Ya hOT Ya hwW hbW w1 hxB hD (payW _ VG) hN5).mono fun e w' h=>(h.un hG).x (by rw[zc6];omega)
  rw[zkF hln]at h;exact h
 | pool q hk hq ht hs' e1 e2 e3 e4 hp hwin hz=>
  have hbd:=Win.len_bd hq ht;rw[q.one_len]at hbd;have hal:=q.all_len;have hsz:x.length=q.C*q.H*q.W:=UL;have hC:s.getD 0 0=(q.C:Int):=Xx;have hix:∀ix∈q.all,∀i∈ix,0<=i/\i<(x.length:Int):=fun ix hi i hj=>⟨hq.all_nn hp ix hi i hj,Vv⟩
  have hpos:1<=q.kh*q.kw:=Zaw hq.kh1 hq.kw1;have hkl:q.kh*q.kw<=262144:=Zl (Zag _ hq.c1) hbd.2.1;have hgl:∀g∈zbh q.C (q.kh*q.kw) q.all,g.length=q.kh*q.kw:=zd6 rfl rfl;rw[Zh Ya,Zh Ya,hwin,hC,e1,e2]at hN⊢;simp only[ZaM]at hN⊢;have hwin2:(zA s (q.kh:Int) (q.kw:Int) l.stride 0).1=q.all:=by rw[<- e1,<- e2,hwin]
  have hCT:q.C*q.all.length<=1000000:=by rw[hal];omega
  rcases hk with hk|hk
  ·rw[Zq hk]at hN⊢
   refine(zkN (KD:=l.kind) (fr:=l.frm) (ot:=l.out) (st:=l.stride) (pd:=l.pad) (KH:=q.kh) (KW:=q.kw) (C:=q.C) (n:=q.kh*q.kw) (T:=q.all.length) (ln:=q.C*(q.kh*q.kw)) (win:=q.all) (af:=aY) (wq l).length d1 (bq l).length d2 cx cS nY cY (.inl hk) hG hX hS Xx rfl hpos Ya rfl Ya hwin2 rfl rfl Ya q.all_one_len' hCT
    (fun X m a c g hg hgn hU hi hr=>?_)).mono fun e w' h=>h.x XE
   have hlt:=(Zu.1 hg).1;have hvl:=zay g x;have hstep:∀g∈zbh q.C (q.kh*q.kw) q.all,∀U:List zl,(zP nI g.length U (zap g x)).1.length=U.length+(q.kh*q.kw-1):=fun g hg U=>by
    exact EY
   have c1:=zct (f:=fun U g=>zP nI g.length U (zap g x)) ((zbh q.C (q.kh*q.kw) q.all).take m) U (fun g hg=>hstep g (Z4 hg));have c2:=zct (f:=fun U g=>zP nI g.length U (zap g x)) (zbh q.C (q.kh*q.kw) q.all) U hstep;rw[ZZ,Nat.min_eq_left (Z6 hlt)]at c1;have c3:(q.kh*q.kw-1)*(m+1)<=(q.kh*q.kw-1)*(zbh q.C (q.kh*q.kw) q.all).length:=ZT _ hlt;rw[Nat.mul_succ]at c3;have hix2:∀i∈g,0<=i/\i<(x.length:Int):=zkt hix (Zt hg);have h:=znT (w:=X) (gG:=gG) (n:=nI) (U:=(zB (fun U g=>zP nI g.length U (zap g x)) ((zbh q.C (q.kh*q.kw) q.all).take m) U).1) (e:=q.kh*q.kw) (ix:=g) c cx Ya hD hB hN5 (hR.pay pp Ya) hU hi hr hgn rfl hpos (Za _) hix2 hxB Ya;rw[hk];rw[hgn];exact h
  ·rw[Zh Ya,Zq hk];have hfp:=zfn (fun g=>zdW (zap g x)) (zbh q.C (q.kh*q.kw) q.all) U;have h:=(zkN (KD:=l.kind) (fr:=l.frm) (ot:=l.out) (st:=l.stride) (pd:=l.pad) (KH:=q.kh) (KW:=q.kw) (C:=q.C) (n:=q.kh*q.kw) (T:=q.all.length) (ln:=q.C*(q.kh*q.kw)) (win:=q.all) (a1:=b1) (a2:=b2) (af:=aY) (G:=fun U g=>(U,zdW (zap g x))) (wq l).length d1 (bq l).length d2 cx cS nY cY (.inr hk) hG hX hS Xx rfl hpos Ya rfl Ya hwin2 rfl rfl Ya q.all_one_len' hCT
    (fun X m a c g hg hgn hU hi hr=>by
     have hix2:∀i∈g,0<=i/\i<(x.length:Int):=zkt hix (Zt hg);have h:=zoN (w:=X) (G:=.pointer (some ⟨gG,0,none⟩)) (ix:=g) c cx hN5 hD hi hr.at' hgn rfl hpos Ya (fun i hi=>(hix2 i hi).2) hxB (hR.pay ?_ ?_);rw[hk];have e:=zpa (x:=x) (fun i hi=>(hix2 i hi).1);rw[hgn]at e;rw[e]at h;exact h.mono fun e w' h=>h.un hU
     ·exact Ik
     ·have:=Zp B hkl;rw[Zah,Zaa];omega)).mono fun e w' h=>h.x XE
   rw[hfp]at h;exact h
 | keep hk=>
  rw[Zh Ya,Zh Ya,Zh Ya,Zh Ya]at hN⊢
  rcases hk with hk|hk
  ·rw[Zq hk]at hN⊢;have hfl:=zc7 (zaY nI) 1 x U (fun U b _=>VY);rw[hk];exact(zqw (ot:=l.out) (aS:=aS) (af:=aY) (wq l).length d1 (bq l).length d2 cx s.length cS nY cY hG hX Ya Ya Ya).mono fun e w' h=>h.x (by rw[zaQ];omega)
  ·rw[Zh Ya,Zh Ya];rw[hk];exact(zpN (ot:=l.out) (aS:=aS) (af:=aY) (wq l).length d1 (bq l).length d2 cx s.length cS nY cY hG hX Ya).mono fun e w' h=>h.x Ya
 | add hk=>
  rw[Zh Ya,Zh Ya,Zh Ya,Zh Ya,Zh Ya,Zq hk];obtain⟨k1,k2,k3⟩:=h7 hk;rw[hk];have h:=(zqv (fr:=l.frm) (ot:=l.out) (kh:=l.kh) (kw:=l.kw) (st:=l.stride) (pd:=l.pad) (a1:=b1) (a2:=b2) (aS:=aS) (y:=y) (wq l).length d1 (bq l).length d2 cx s.length cS nY cY hG hX Ya k1 k2 k3 hxB hyB hD (hR.pay pp Ya) hN5).mono fun e w' h=>h.x (by rw[zd8];omega)
  unfold zgY at h;exact h
structure RlB (w1:World) (gG n:Nat) (wr:World) (U:List zl) (tr:Value) (Y:List (List zl)):Prop where
 un:LSt wr gG n U
 own:zb1 gG wr (gG+1) tr Y
 bl:Below gG w1 wr
theorem RlB.stp{w1:World}{gG n:Nat}{wr w':World}{U U':List zl}{tr:Value}{Y:List (List zl)}(h:RlB w1 gG n wr U tr Y)(hs:Stp gG wr w')(hU:LSt w' gG n U'):RlB w1 gG n w' U' tr Y:=
 ⟨hU,h.own.stp h.un hs,h.bl.trans (hs.below h.un)⟩
theorem RlB.app{w1:World}{gG n:Nat}{wr w':World}{U:List zl}{tr tr':Value}{Y Y':List (List zl)}(h:RlB w1 gG n wr U tr Y)(ho:zb1 gG w' (gG+1) tr' Y')(hg:wr.grownBy w' tr.ownBlock):RlB w1 gG n w' U tr' Y':=
 ⟨h.un.grown hg h.own.fr h.own.al.sbs,ho,h.bl.grown hg (Z6 h.un.lt) (fun k hk=>by have:=(h.own.lt hk).1;omega)⟩
structure SQ (gG:Nat) where
 p:Value->World->Prop
 keep:∀{v:Value} {w w':World} {n:Nat} {U:List zl},p v w->LSt w gG n U->Stp gG w w'->p v w'
variable {gG:Nat}
def SQ.val(x:Value):SQ gG:=⟨fun v _=>v=x,fun h _ _=>h⟩
def SQ.row(L:List zl):SQ gG:=⟨fun v w=>∃a c,v=.slice a L.length c/\L.length<=c/\zci gG w a L,fun⟨a,c,e,h1,h2⟩ hL hs=>⟨a,c,e,h1,h2.stp hL hs⟩⟩
def SQ.one(L:List zl):SQ gG:=⟨fun v w=>∃g a c,v=.slice (some ⟨g,0,none⟩) 1 1/\Fre gG w g/\w.cell? ⟨g,0,none⟩=some (.slice a L.length c)/\L.length<=c/\zci gG w a L,
 fun⟨g,a,c,e,h0,h1,h2,h3⟩ hL hs=>⟨g,a,c,e,h0.stp hs,(h0.cell hs).trans h1,h2,h3.stp hL hs⟩⟩
def GW(L:List (SQ gG))(i:Nat)(v:Value)(w:World):Prop:=match L[i]? with|some s=>s.p v w|none=>True
theorem zpm{n:Nat}{U:List zl}{L:List (SQ gG)}{i:Nat}{v:Value}{w w':World}(h:GW L i v w)(hL:LSt w gG n U)(hs:Stp gG w w'):GW L i v w':=by
 unfold GW at h⊢
 split
 ·rename_i s e;rw[e]at h;exact s.keep h hL hs
 ·trivial
structure zi9 (n:Nat) (W1:World) (U U':List zl) (j:Nat) (L:List (SQ gG)) (d:Nat->Bool) (g:Nat->Value) (W:World):Prop where
 st:Stp gG W1 W
 un:LSt W gG n (if d j=true then U' else U)
 all:∀i,d i=true->GW L i (g i) W
section
variable {n:Nat} {W1:World} {U U':List zl} {j:Nat} {L:List (SQ gG)} {d:Nat->Bool} {g:Nat->Value} {W W':World} {i:Nat} {v:Value}
theorem zi9.start(h:LSt W1 gG n U)(g:Nat->Value):zi9 n W1 U U' j L (fun _=>false) g W1.drew:=
 ⟨Stp.of (Zg _ _).drew h.lt,Jx,fun _ h=>YG⟩
theorem zi9.step(h:zi9 n W1 U U' j L d g W)(hi:j≠i)(hb:Below W.heap.size W W')(hv:GW L i v W'):zi9 n W1 U U' j L (zdB d i) (upd g i v) W':=by
 have hs:=Stp.of hb h.un.lt
 refine⟨h.st.trans hs,Vt,fun k hk=>?_⟩
 unfold upd
 by_cases e:k=i
 ·subst e;rw[Zq rfl];exact hv
 ·rw[Zh e];rw[zas e]at hk;exact zpm (h.all k hk) h.un hs
theorem zi9.here(h:zi9 n W1 U U' j L d g W)(hi:j≠i)(hv:GW L i v W):zi9 n W1 U U' j L (zdB d i) (upd g i v) W:=h.step hi (Zg _ _) hv
theorem zi9.unit(h:zi9 n W1 U U' j L d g W)(hL:LSt W' gG n U')(hs:Stp gG W W')(hv:GW L j v W'):zi9 n W1 U U' j L (zdB d j) (upd g j v) W':=by
 refine⟨h.st.trans hs,Jq,fun k hk=>?_⟩
 unfold upd
 by_cases e:k=j
 ·subst e;rw[Zq rfl];exact hv
 ·rw[Zh e];rw[zas e]at hk;exact zpm (h.all k hk) h.un hs
theorem zi9.old(h:zi9 n W1 U U' j L d g W)(hd:d j=false):LSt W gG n U:=by
 have:=h.un
 rwa [Zh (by rw[hd];simp)]at this
theorem zi9.new(h:zi9 n W1 U U' j L d g W)(hd:d j=true):LSt W gG n U':=by
 have:=h.un
 rwa [Zq hd]at this
end
theorem zn9{w:World}{m:zgt}{a1 a2:Option Addr}(c1 c2:Nat)(h1:z9 w Any a1 m.input)(h2:zaO w a2 m.layers)(hr:∀l∈m.layers,zO l)(hs:∀l∈m.layers,zbC l):
  Calls Tryz.prog 26 #[.agg #[.slice a1 m.input.length c1,.slice a2 m.layers.length c2]] w (fun e w'=>e=.returned (.tuple #[.int .i64 (zht m).1,.int .i64 (zht m).2])/\Below w.heap.size w w'):=by
 have q1:=h1.len;have q2:=h2.len;obtain⟨H1,H2,HRg,HSh⟩:=hd4 h1 h2 hr hs;generalize hR:zht m=RR;unfold zht at hR;have HRd:=hid hR;clear h1 h2 hr hs hR
 go_enter Tryz.func26,Tryz.ntmps26
 go_upto_region 1 with fail
 have hb0:=blA w (.cells #[.slice a1 m.input.length c1,.slice a2 m.layers.length c2] 25);have hx:=za1.alloc w (.slice a1 m.input.length c1) (.slice a2 m.layers.length c2) 25;generalize w.alloc (.cells #[.slice a1 m.input.length c1,.slice a2 m.layers.length c2] 25)=W at *;obtain⟨HB0,HX⟩:=hd2 hb0 hx;obtain⟨x0,x1,xf,xlt⟩:=hx;clear hb0
 go_wp2_with fail
 refine(zry c1 c2 (H1.out.below HB0.out) (H2.out.below HB0.out) HRg.out HSh.out).mono ?_
 rintro e w1 ⟨⟨aS,cS,rfl,hI⟩,hb1⟩;have HX1:=hid (HX.out.below hb1);have HB1:=htr HB0 hb1;clear hb1 x0 x1 xf xlt
 by_cases he:(zab m).2.2=0
 case neg=>
  rw[Zh he]at HRd;generalize(zab m).2.2=er at *;generalize(zab m).2.1=ei at *;have t1:(er != 0)=true:=Xa;have hRR:=HRd.out;subst hRR;clear he hI HRd;go_wp2
  refine Zr (zfs rfl _ _ _) rfl ?_
  exact⟨rfl,HB1.out⟩
 rw[Zq he]at HRd;obtain⟨HO,H2'⟩:=hd2 (zfM.of he) hI;obtain⟨x0,x1,xf,xlt⟩:=HX1.out;clear hI;have t1:(((zab m).2.2:Int) != 0)=false:=VO;rw[he];clear he t1;generalize hei:(zab m).2.1=ei at *;clear hei;generalize(zab m).1=T at *;generalize m.layers=L at *;generalize m.input=I at *;have HTl:=hid HO.out.len;have hL6:=HO.out.few;have hTL:T.length<=64:=by rw[HO.out.len];exact hL6
 have H2l:=hid (H2.out.below HB1.out);go_wp2;clear x0 x1 xf xlt
 go_loopw [7,8] (fun v i wr=>∃(j:Nat) (n:Int),j<=L.length/\v=.int .i64 n/\i=.int .i64 (j:Int)/\Hid (n=zfK (L.take j) (T.take j))/\Hid (Below w1.heap.size w1 wr)) (fun _ i _=>L.length-(intOf i).toNat)
 case atStart=>exact⟨0,0,Zs _,rfl,rfl,rfl,Zg _ _⟩
 case round=>
  obtain⟨j,n,hj,rfl,rfl,HN,HB⟩:=hrel;have hnb:=HO.out.bd j hj;rw[<- HN.out]at hnb;obtain⟨x0,x1,xf,xlt⟩:=HX1.out.below HB.out
  by_cases hlt:j<L.length
  ·obtain⟨bl,ol,l,ha2,hbl,hl,b1,b2,d1,d2,⟨l0,l1,l2,l3,l4,l5,l6,l7,l8⟩,r1,r2⟩:=H2l.out.pick hlt;obtain⟨bT,oT,t,aT,ct,haT,tc0,hTi,htc,hIt,hbT,_⟩:=H2'.out.pickc (k:=j) Y4;have hc9:=fun o=>HB.out.cell (p:=⟨bl,o,none⟩) hbl
   have l0:=(hc9 _).trans l0;have l1:=(hc9 _).trans l1;have l2:=(hc9 _).trans l2;have l3:=(hc9 _).trans l3;have l4:=(hc9 _).trans l4;have l5:=(hc9 _).trans l5;have l6:=(hc9 _).trans l6;have l7:=(hc9 _).trans l7;have l8:=(hc9 _).trans l8;have hbl2:=Zd hbl HB.out.size;have hstep:=HO.out.step hl hTi;obtain⟨z0,z1,z3⟩:=HO.out.ok j l t hl hTi;have hcb:=HO.out.cnt1 hl hTi;have hal:=blA wr (zbu l b1 d1 b2 d2 44);have HBx9:=hid (b9l wr l b1 d1 b2 d2 44);have HBj:=htr HB hal;have tc0:=(HBj.out.cell (p:=⟨bT,oT+j,none⟩) hbT).trans tc0;have hbT2:=Zd hbT HBj.out.size;obtain⟨HSz,HStep,HN1⟩:=hd3 (fun X (hb:Below w1.heap.size w1 X)=>zjP ct (hIt.below hb)) hstep HN.out;have hjT:j<T.length:=Y4;subst ha2 haT;clear hl hTi hIt hal hc9 r1 r2 hstep HN htc
   go_upto_region 9 with fail
   generalize wr.alloc (zbu l b1 d1 b2 d2 44)=wj at *;clear l0 l1 l2 l3 l4 l5 l6 l7 l8;obtain⟨l0,l1,l2,l3,l4,l5,l6,l7,l8,l9⟩:=HBx9.out;clear x0 x1 xf xlt;generalize hzz:zJ t=z at *;have HSzz:=HSz;have HSz':=hid (HSz.out wj HBj.out);clear HSz hzz;have HRel:Hid (∀(d:Int) (X:World),zhl l z=d->Below w1.heap.size w1 X->n+d=zfK (L.take (j+1)) (T.take (j+1))/\Below w1.heap.size w1 X):=fun d X h hb=>by
    rw[HStep.out,h,HN1.out];exact⟨rfl,hb⟩
   by_cases hk5:l.kind=5
   ·exact Ti
   ·have q5:decide (l.kind=5)=false:=by simp[hk5]
    have q5b:(l.kind==5)=false:=by simp[hk5]
    by_cases hk3:l.kind=3
    ·obtain⟨p,hp⟩:∃p,p=l.kh*l.kw:=⟨_,rfl⟩
     obtain⟨q,hq⟩:∃q,q=z*(p-1):=⟨_,rfl⟩
     have hc:zhl l z=q:=by unfold zhl;rw[Zh hk5,Zq hk3,hq,hp,Int.mul_comm]
     obtain⟨p1,p2⟩:=z3 hk3;rw[<- hp]at p1 p2;rw[hc]at hcb;have m1:IntKind.i64.wrap (l.kh*l.kw)=p:=Jf;have m2:IntKind.i64.wrap (z*(p-1))=q:=Jg;rw[hk3]at l0;have HSq:Hid (∀k,Calls Tryz.prog 29 #[.slice aT t.length ct] (wj.drewN k) (fun e w'=>e=.returned (.int .i64 z)/\w'=wj.drewN k)):=fun k=>(HSzz.out _ (below_drewN HBj.out k)).mono fun _ _ h=>⟨h.1,h.2.symm⟩
     have HC:=hid hc;clear hp hq hc q5 q5b z3 hk3 hk5
     go_upto_region 12 with fail
     go_quiet ((go_at_call 29;exact Calls.quiet_of_same (HSq.out _)))
     exact TT
    ·exact Tg
  ·obtain rfl:j=L.length:=Ya;have HF:Hid (n=zfK L T):=EU;have HBw:=htr HB1 HB.out;go_wp2
   refine Zr (zfs rfl _ _ _) rfl ?_
   rw[<- HRd.out,HF.out];exact⟨rfl,HBw.out⟩

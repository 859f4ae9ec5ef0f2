/-
  Two small lemmas for texts of the claim: a new block leaves what was there;what is hidden goes on.
-/
import Derived.Below
import Derived.Lib.Hide
namespace Go.Proofs.YtfgmmghmmfmdgaaGreat
open Go.RowKit
open Go.Lib (hid)
variable {P a b c d e:Prop}
theorem Ya(h:P:=by omega):P:=h
theorem Yb(h:P:=by kernel_rfl):P:=h
theorem Yc(h:P:=by simp):P:=h
theorem Yd(h:P:=by decide):P:=h
theorem Ye(h:P:=by simp only[hW]):P:=h
theorem Yf(h:P:=by unfold maxLen;omega):P:=h
theorem Yh(h:P:=by unfold Hid;rw[HK.out,f0,f1];rfl):P:=h
theorem Yi(h:P:=by simp;omega):P:=h
theorem Yj(h:P:=by unfold Hid;rw[HK.out];rfl):P:=h
theorem Yk(h:P:=by unfold Hid;rw[HK.out,f0,f1,f2,f3];rfl):P:=h
theorem Yl(h:P:=by rw[List.length_map];omega):P:=h
theorem Ym(h:P:=by rw[<- hx];exact zG h.lim):P:=h
theorem Yn(h:P:=by unfold Hid;rw[HK.out,f0];rfl):P:=h
theorem Yo(h:P:=by intro e;cases e):P:=h
theorem Yp(h:P:=by intro u hu;simp at hu;rcases hu with rfl|rfl|rfl<;>rfl):P:=h
theorem Yq(h:P:=by rw[beq_iff_eq];omega):P:=h
theorem Ys(h:P:=by have h:=HM.out.own.alloc (.cells #[.int .i64 5,.int .i64 0,.int .i64 0,.int .i64 0,.int .i64 0,.int .i64 0,.int .i64 0,.slice none 0 0,.slice none 0 0] 44);rw[zbg]at h;exact h):P:=h
theorem Yt(h:P:=by unfold Hid;rw[<- HRd.out,HE1.out,h2];rfl):P:=h
theorem Yu(h:P:=by rw[<- Int.natCast_mul,<- hn];exact IntWalk.i64_in _ (by omega)):P:=h
theorem Yv(h:P:=by have:=HF.out.a.lt;omega):P:=h
theorem Yw(h:P:=by unfold Hid;rw[<- HRk.out,g1,g2];rfl):P:=h
theorem Yx(h:P:=by unfold Hid;rw[HK.out,f0,f1,f2];rfl):P:=h
theorem Yy(h:P:=by rw[List.length_take];omega):P:=h
theorem Yz(h:P:=by simp only[ztY];omega):P:=h
theorem Y1(h:P:=by unfold Hid;rw[<- HRd.out,h1];rfl):P:=h
theorem Y2(h:P:=by rw[bne_iff_ne];exact he):P:=h
theorem Y3(h:P:=by rw[<- hy];exact zG g.lim):P:=h
theorem Y4(h:P:=by have:= ‹Below W.heap.size W _›.size;first|exact this|(simp at this⊢;omega)):P:=h
theorem Y6(h:P:=by unfold Hid;rw[<- HRk.out,g1,g2,g3];rfl):P:=h
theorem Y8(h:P:=by simpa using ho):P:=h
theorem Y9(h:P:=by have h:=HS.out.below ((Below.refl w.heap.size w).alloc (Nat.le_refl _) (.cells #[] 109));rw[HLn.out]at h;exact h):P:=h
theorem YA(h:P:=by rw[List.all_eq_false];exact⟨s,HMem.out,by simp[hv]⟩):P:=h
theorem YB(h:P:=by unfold Hid;rw[<- HRk.out];rfl):P:=h
theorem YC(h:P:=by unfold za9;rw[if_neg (by omega),if_neg (by omega),if_neg (by omega),if_neg (by omega),if_neg (by omega)]):P:=h
theorem YD(h:P:=by rw[decide_eq_false_iff_not];omega):P:=h
theorem YE(h:P:=by unfold Hid;rw[<- HRd.out,HE1.out,HE2.out,decide_eq_true g1,decide_eq_true g2,decide_eq_true g3,e3];rfl):P:=h
theorem YG(h:P:=by rw[HStep.out];exact hown):P:=h
theorem YH(h:P:=by unfold Hid;rw[<- HRk.out,g1];rfl):P:=h
theorem YI(h:P:=by unfold Hid;rw[<- HRd.out,hok,Bool.and_false];rfl):P:=h
theorem YJ(h:P:=by unfold za9;rw[if_neg (by omega),if_neg (by omega),if_neg (by omega),if_neg (by omega),if_pos hk]):P:=h
theorem YK(h:P:=by exact hf):P:=h
theorem YL(h:P:=by unfold Hid;rw[<- HRk.out,g1,decide_eq_true g2,decide_eq_true g3,decide_eq_true g4,HG5.out,g6];rfl):P:=h
theorem YM(h:P:=by rw[<- hrel.out,zpz hk hlt];rfl):P:=h
theorem YN(h:P:=by rw[hl,hcs,<- Nat.add_mul];exact Nat.mul_le_mul_right _ hroom):P:=h
theorem YO(h:P:=by intro u hu;simp at hu;subst hu;rfl):P:=h
theorem YP(h:P:=by cases h):P:=h
theorem YS(h:P:=by assumption):P:=h
theorem YT(h:P:=by show(z7 f r (f U b).1).1=_;rw[e2,e1,List.append_assoc]):P:=h
theorem YU(h:P:=by rw[decide_eq_true_eq];omega):P:=h
theorem YV(h:P:=by unfold za9;rw[if_neg (by omega),if_neg (by omega),if_pos (by omega),HZ2.out,HS0.out]):P:=h
theorem YW(h:P:=by rw[hQ.out];exact RatV.store hN5.out k3 k4 K5.out K6.out):P:=h
theorem YX(h:P:=by rw[HQ.out];exact RatV.store hN5.out k3 k4 K5.out K6.out):P:=h
theorem YY(h:P:=by have:=HOK.out;rw[Bool.and_eq_true]at this;exact this.2):P:=h
theorem YZ(h:P:=by have:=HT.out;omega):P:=h
theorem Xa(h:P:=by rw[hs'];rfl):P:=h
theorem Xb(h:P:=by have h:=hwv'.out.below hbw2;rw[HHv.out.2]at h;rw[<- HHv.out.2]at h⊢;exact h):P:=h
theorem Xc(h:P:=by rw[<- HP.out];exact hlt):P:=h
theorem Xd(h:P:=by have h:=HM.out.own.alloc (zbG l b1 d1 b2 d2 44);rw[zbg]at h;exact h):P:=h
theorem Xe(h:P:=by rw[List.length_append,zbg];rfl):P:=h
theorem Xf(h:P:=by rw[hp1,hp0,Nat.succ_mul]):P:=h
theorem Xg(h:P:=by have:=HT.out.b.lt;omega):P:=h
theorem Xh(h:P:=by cases hv:v.ownBlock<;>simp):P:=h
theorem Xi(h:P:=by rw[bne_iff_ne];omega):P:=h
theorem Xj(h:P:=by unfold I64;omega):P:=h
theorem Xk(h:P:=by have:=hB.size;have:=hBc.size;omega):P:=h
theorem Xl(h:P:=by rw[HTl.out];exact hlt):P:=h
theorem Xm(h:P:=by rw[HQ1.out,hL];exact HST.out false):P:=h
theorem Xn(h:P:=by have:=HM.out;unfold Hid;rw[Nat.succ_mul];omega):P:=h
theorem Xq(h:P:=by simp[Hid]):P:=h
theorem Xr(h:P:=by intro u hu;simp[Value.cells]at hu;rcases hu with rfl|rfl<;>rfl):P:=h
theorem Xs(h:P:=by unfold za9;rw[if_neg (by omega),if_neg (by omega),if_pos (by omega)]):P:=h
theorem Xt(h:P:=by intro k hk;simp[Value.ownBlock]at hk;omega):P:=h
theorem Xu(h:P:=by rw[hW,List.length_append];omega):P:=h
theorem Xv(h:P:=by unfold Hid;rw[<- HRd.out,hvi];rfl):P:=h
theorem Xw(h:P:=by show(if u=u then q else _)=q;rw[if_pos rfl]):P:=h
theorem Xx(h:P:=by intro u hu;simp at hu;rcases hu with rfl|rfl|rfl|rfl<;>rfl):P:=h
theorem Xy(h:P:=by have:=HQ.out;omega):P:=h
theorem Xz(h:P:=by simpa using he):P:=h
theorem X0(h:P:=by rw[beq_eq_false_iff_ne];exact e1):P:=h
theorem X4(h:P:=by unfold Hid;rw[<- HRd.out,e1];rfl):P:=h
theorem X5(h:P:=by have:=HM.out.be.size;simp;omega):P:=h
theorem X7(h:P:=by have h:=zhd v q;have h2:=HNL.out;rw[List.length_append];omega):P:=h
theorem X8(h:P:=by rw[getD_set_ne _ (by omega)];exact hl j hj):P:=h
theorem X9(h:P:=by rw[zbg];exact HOwn.out):P:=h
theorem XA(h:P:=by cases e;exact HFr.out):P:=h
theorem XB(h:P:=by have:=HV.out;rwa [List.take_length]at this):P:=h
theorem XC(h:P:=by rw[hp1];exact Nat.le_trans (Nat.mul_le_mul_right _ hlt) Hwl.out):P:=h
theorem XD(h:P:=by first|exact HRA.out|(rw[if_neg (by omega)];exact HRA.out)):P:=h
theorem XE(h:P:=by first|exact HRB.out|(rw[if_neg (by omega)];exact HRB.out)):P:=h
theorem XF(h:P:=by simp only[Nat.zero_add]at hbytes;omega):P:=h
theorem XG(h:P:=by simp only[maxLen]at h63;omega):P:=h
theorem XH(h:P:=by rw[hsz];exact hlt):P:=h
theorem XI(h:P:=by unfold Hid;rw[<- HRd.out,HE1.out,e2];rfl):P:=h
theorem XJ(h:P:=by unfold Hid;rw[Nat.succ_mul];exact HM.out):P:=h
theorem XK(h:P:=by rw[List.append_nil]):P:=h
theorem XL(h:P:=by unfold Hid;rw[<- HRk.out,HG1.out,g2];rfl):P:=h
theorem XM(h:P:=by rw[Nat.pow_add,Nat.pow_mul];exact Nat.mul_le_mul_right _ hW):P:=h
theorem XN(h:P:=by rw[HNn.out];exact hlt):P:=h
theorem XO(h:P:=by first|rfl|exact True.intro):P:=h
theorem XP(h:P:=by simp[hs]):P:=h
theorem XR(h:P:=by rw[hn];exact Nat.mul_pos hq.kh1 hq.kw1):P:=h
theorem XS(h:P:=by have h:=congrArg zT e;rwa [zH,zH]at h):P:=h
theorem XT(h:P:=by rw[<- HN9.out];exact HO9.out):P:=h
theorem XU(h:P:=by unfold Hid;omega):P:=h
theorem XV(h:P:=by simpa using hu):P:=h
theorem XW(h:P:=by have:=HS.out;rw[List.drop_length]at this;exact this.symm):P:=h
theorem XX(h:P:=by rw[HGs.out,ze0,HM.out,HT.out];exact Nat.le_refl _):P:=h
theorem XZ(h:P:=by unfold Hid;rw[HTk.out,HV.out,hv];rfl):P:=h
theorem Ka(h:P:=by unfold Hid;rw[HCu.out];exact HIs.out):P:=h
theorem Kb(h:P:=by rw[<- hrel.out,HD.out,zd7 (.inr (.inl c2))]):P:=h
theorem Kc(h:P:=by rw[<- hrel.out,HD.out,zd7 (.inr (.inr c3))]):P:=h
theorem Kd(h:P:=by rw[hs,hsz]):P:=h
theorem Ke(h:P:=by rw[HP.out];intro x hx;have:=hq.one_bd r c x hx;omega):P:=h
theorem Kf(h:P:=by have:=HG.out;rw[Nat.gcd_zero_right]at this;exact this):P:=h
theorem Kg(h:P:=by unfold Hid;rw[TA.out,TB.out,HT.out]):P:=h
theorem Kh(h:P:=by have:=(HO.out.own.lt b e).2;have:=(hob b hb).1;omega):P:=h
theorem Ki(h:P:=by have:=zne (show q<4294967296 by omega) b4;omega):P:=h
theorem Kj(h:P:=by have:=HRd.out;rw[hvm,if_pos rfl]at this;exact this):P:=h
theorem Kk(h:P:=by simp[Value.cells]):P:=h
theorem Kl(h:P:=by unfold Hid;rw[<- HRd.out,hvm];rfl):P:=h
theorem Km(h:P:=by rw[HTl.out];omega):P:=h
theorem Kn(h:P:=by simpa using hb):P:=h
theorem Ko(h:P:=by have:=zjK.1 e;omega):P:=h
theorem Kp(h:P:=by simp[he]):P:=h
theorem Kr(h:P:=by have:=HI.out.lB;rw[List.length_cons]at this;omega):P:=h
theorem Ks(h:P:=by rw[<- hrel.out,HD.out,ziV c1 c2 c3];rfl):P:=h
theorem Kt(h:P:=by rw[hne.out];rfl):P:=h
theorem Ku(h:P:=by unfold Hid;rw[zhg,<- HSl.out];exact HT.out):P:=h
theorem Kv(h:P:=by have:=hBc.size;have:=hbI.size;simp at this;omega):P:=h
theorem Kw(h:P:=by simpa using h.lt):P:=h
theorem Kx(h:P:=by rw[<- zl1];exact HOut.out):P:=h
theorem Ky(h:P:=by rw[hp1,HLnE.out];exact Nat.mul_le_mul_right _ hlt):P:=h
theorem Kz(h:P:=by unfold Hid;simp[List.range_succ]):P:=h
theorem K0(h:P:=by intro u hu;simp[Value.cells]at hu;subst hu;rfl):P:=h
theorem KA(h:P:=by rw[beq_eq_false_iff_ne];exact hE):P:=h
theorem KD(h:P:=by have:=HU.out;omega):P:=h
theorem KE(h:P:=by rw[beq_iff_eq];exact e1):P:=h
theorem KF(h:P:=by unfold Hid;rw[<- HRd.out,decide_eq_false e1];rfl):P:=h
theorem KG(h:P:=by rw[hs];exact HI.out.box):P:=h
theorem KI(h:P:=by rw[hy2];exact(Hx1.out _ hmex).mono (by omega)):P:=h
theorem KJ(h:P:=by have:=HStep.out;rw[if_pos he]at this;exact this):P:=h
theorem KK(h:P:=by rw[List.append_nil];rfl):P:=h
theorem KM(h:P:=by rw[<- hrel.out,HD.out,zd7 (.inl c1)]):P:=h
theorem KO(h:P:=by have h:=HOw2.out.own;rw[HTl.out]at h;exact h):P:=h
theorem KQ(h:P:=by rw[H3.out];exact hlk):P:=h
theorem KR(h:P:=by simp[hE]):P:=h
theorem KS(h:P:=by unfold zep;rw[if_neg (by omega),if_pos rfl]):P:=h
theorem KT(h:P:=by unfold Hid zaB;rw[e1,e2,e3,e4,e5,e6,e7];rfl):P:=h
theorem KU(h:P:=by unfold Hid;rw[List.length_append,HTl.out];rfl):P:=h
theorem KX(h:P:=by rw[zbI,HGs.out,ze0,HM.out,HT.out]):P:=h
theorem KY(h:P:=by rw[<- Nat.pow_add,show 32-k+k=32 by omega]):P:=h
theorem Jb(h:P:=by rw[g0,hk]):P:=h
theorem Jc(h:P:=by first|exact HWnn.out _ _|exact HWn.out _):P:=h
theorem Jd(h:P:=by rw[Nat.zero_add]):P:=h
theorem Je(h:P:=by unfold Hid;rw[TA.out,TB.out,HT.out,HXY.out]):P:=h
theorem Jg(h:P:=by have:=zaC (Nat.sub_le y x);omega):P:=h
theorem Jh(h:P:=by have:=zaC (Nat.sub_le x y);omega):P:=h
theorem Jj(h:P:=by rw[e1,e2];rfl):P:=h
theorem Jk(h:P:=by unfold Hid;have:=HM.out;omega):P:=h
theorem Jl(h:P:=by rw[hal];exact Nat.le_trans hz (by decide)):P:=h
theorem Jm(h:P:=by rw[ho]):P:=h
theorem Jn(h:P:=by have:=HM.out;unfold Hid;omega):P:=h
theorem Jo(h:P:=by unfold Hid;simpa [zba]using zi3.start wq):P:=h
theorem Jp(h:P:=by rw[HStep.out];exact HG5.out.app hown hg hnx):P:=h
theorem Jq(h:P:=by unfold Hid;rw[<- HRk.out,g1,HG2.out,g3];rfl):P:=h
theorem Jr(h:P:=by have h:=HLw.out.bl;rw[HGg.out]at h;exact h):P:=h
theorem Js(h:P:=by rw[HCe.out];exact zk3 hqB HK.out.vl k):P:=h
theorem Jt(h:P:=by rw[<- h3];exact zG h2.lim):P:=h
theorem Ju(h:P:=by rw[<- g3];exact zG g2.lim):P:=h
theorem Jv(h:P:=by simpa [World.cell?,World.setRow]using ee):P:=h
theorem Jw(h:P:=by show(if u=v then q else _)=_;rw[if_neg k]):P:=h
theorem Jx(h:P:=by rw[hp1];exact IntWalk.i64_in _ (by omega)):P:=h
theorem Jy(h:P:=by rw[hp2];exact IntWalk.i64_in _ (by omega)):P:=h
theorem Jz(h:P:=by rw[hp3];exact IntWalk.i64_in _ (by omega)):P:=h
theorem JA(h:P:=by simpa using hi):P:=h
theorem JB(h:P:=by rw[zeT (fun _ _=>rfl)];simp[zA]):P:=h
theorem JC(h:P:=by rw[HL.out];exact HBl2.out _ HDn.out.symm):P:=h
theorem JD(h:P:=by rw[HLn.out];omega):P:=h
theorem JE(h:P:=by rw[hs];exact Hs.out (k-1) (by omega)):P:=h
theorem JF(h:P:=by rw[hp1];simp):P:=h
theorem JG(h:P:=by have:=HP01.out;omega):P:=h
theorem JH(h:P:=by rw[<- hh];exact hp1.symm):P:=h
theorem JI(h:P:=by rw[<- hh];exact hp2.symm):P:=h
theorem JJ(h:P:=by rw[hp1];exact Nat.mul_le_mul_right _ hlt):P:=h
theorem JK(h:P:=by show zb9 _ _=false;rw[hcs0];exact hs):P:=h
theorem JL(h:P:=by rw[List.length_map,H1.out];exact hmul):P:=h
theorem JM(h:P:=by rw[e,List.length_append]at hN';omega):P:=h
theorem JN(h:P:=by have h:=HRe.out;rw[hraw]at h;exact h):P:=h
theorem JO(h:P:=by show zb9 _ _=true;rw[hcs0];exact hs):P:=h
theorem JP(h:P:=by rw[zaJ (by omega)];exact ha i h1 h2):P:=h
theorem JQ(h:P:=by rw[<- HQ.out];exact hkq):P:=h
theorem JR(h:P:=by simp[hk]):P:=h
theorem JS(h:P:=by rw[zbs,zbs,zcy];omega):P:=h
theorem JT(h:P:=by intro h;rw[h]at hn;simp at hn;omega):P:=h
theorem JU(h:P:=by unfold Hid;rw[zd5];exact HBl.out):P:=h
theorem JV(h:P:=by simpa using hj.symm):P:=h
theorem JW(h:P:=by rw[List.length_map,H2.out];exact hlt):P:=h
theorem JX(h:P:=by unfold maxLen at hm;omega):P:=h
theorem JY(h:P:=by have:=(hob b hb).1;have:=hB.size;omega):P:=h
theorem JZ(h:P:=by intro j u hj;simp at hj):P:=h
theorem Va(h:P:=by simpa using Array.mem_of_getElem? hu):P:=h
theorem Vb(h:P:=by unfold Hid;simpa [z7]using HGy.out):P:=h
theorem Vg(h:P:=by unfold Hid;rw[zg,zg]):P:=h
theorem Vh(h:P:=by simp only[World.cell?,hg];exact hj):P:=h
theorem Vi(h:P:=by simpa using List.mem_of_mem_take hu):P:=h
theorem Vj(h:P:=by simpa using List.mem_of_mem_drop hu):P:=h
theorem Vk(h:P:=by rw[hox.1];omega):P:=h
theorem Vl(h:P:=by have:=HI.out.lB;simpa using this.symm):P:=h
theorem Vm(h:P:=by rw[bne_iff_ne];exact hE):P:=h
theorem Vn(h:P:=by rw[HQ1.out,hL];exact HST1.out false):P:=h
theorem Vo(h:P:=by unfold Hid;rw[HT.out,HA.out,hq];rfl):P:=h
theorem Vp(h:P:=by rcases h with h|h<;>(rw[h];rfl)):P:=h
theorem Vq(h:P:=by intro g h;cases h):P:=h
theorem Vr(h:P:=by rw[zaP];exact Nat.le_refl _):P:=h
theorem Vs(h:P:=by decide+kernel):P:=h
theorem Vt(h:P:=by unfold ub;rw[h1];subst e2;exact e):P:=h
theorem Vu(h:P:=by rw[List.length_map,HYl.out];omega):P:=h
theorem Vv(h:P:=by rw[rfl']at e0;simpa using e0.symm):P:=h
theorem Vw(h:P:=by rw[rfl']at e1;simpa using e1.symm):P:=h
theorem Vx(h:P:=by rw[rfl']at e2;simpa using e2.symm):P:=h
theorem Vy(h:P:=by unfold Win.at znw;rw[if_pos hin]):P:=h
theorem Vz(h:P:=by unfold Win.at znw;rw[if_neg hin]):P:=h
theorem V0(h:P:=by unfold Hid;rw[zd5];exact HB0):P:=h
theorem V3(h:P:=by intro u hu;simp at hu):P:=h
theorem V4(h:P:=by unfold Hid;rw[List.map_append];rfl):P:=h
theorem V5(h:P:=by rw[hsz];exact hq.all_lt ix hi i hj):P:=h
theorem V6(h:P:=by have:=HTj.out;unfold maxLen;omega):P:=h
theorem V7(h:P:=by rw[hln,HLen.out l hmem];exact hmul):P:=h
theorem V8(h:P:=by rw[hE];rfl):P:=h
theorem V9(h:P:=by rw[HBe.out];exact zn8 _ _ _ _):P:=h
theorem VA(h:P:=by rw[HQ1.out,hL];exact HST.out true):P:=h
theorem VB(h:P:=by unfold Hid;rw[<- HRe.out,hvo];rfl):P:=h
theorem VC(h:P:=by rw[e1,List.length_append];omega):P:=h
theorem VD(h:P:=by rw[e2,List.length_append];omega):P:=h
theorem VE(h:P:=by rw[hln,HLen.out l hmem];exact hcn):P:=h
theorem VF(h:P:=by rw[HSl.out];exact Nat.le_refl _):P:=h
theorem VG(h:P:=by rw[List.length_map];exact HYl.out):P:=h
theorem VH(h:P:=by rw[HTl.out];exact Nat.le_refl _):P:=h
theorem VI(h:P:=by rw[HNn.out];exact Nat.le_refl _):P:=h
theorem VJ(h:P:=by rw[<- HQ.out];omega):P:=h
theorem VK(h:P:=by simpa using hown):P:=h
theorem VL(h:P:=by simp[Win.total]):P:=h
theorem VM(h:P:=by simp[Value.ownBlock]):P:=h
theorem VN(h:P:=by rw[htl];exact hil'):P:=h
theorem VO(h:P:=by rw[zbI,ze0];omega):P:=h
theorem VP(h:P:=by simpa using h1):P:=h
theorem VQ(h:P:=by simpa using h):P:=h
theorem VR(h:P:=by simp[zt,hv]):P:=h
theorem VS(h:P:=by unfold Hid;simp):P:=h
theorem VT(h:P:=by rw[HT2.out];omega):P:=h
theorem VU(h:P:=by rw[hsz];exact hn):P:=h
theorem VV(h:P:=by rw[hs];rfl):P:=h
theorem VW(h:P:=by rw[hsz];exact h):P:=h
theorem VX(h:P:=by rw[h];simp):P:=h
theorem VY(h:P:=by cases e):P:=h
theorem VZ(h:P:=by rw[HDn.out];rfl):P:=h
theorem Ua(h:P:=by have:=h.hB;omega):P:=h
theorem Ub(h:P:=by simpa using hb.lt):P:=h
theorem Uc(h:P:=by rw[he];simp):P:=h
theorem Ud(h:P:=by simp[zbV]):P:=h
theorem Ue(h:P:=by rw[HN9.out]):P:=h
theorem Uf(h:P:=by simpa using hj):P:=h
theorem Ug(h:P:=by rw[hkk];omega):P:=h
theorem Uh(h:P:=by simpa using hg):P:=h
theorem Ui(h:P:=by rw[e9];rfl):P:=h
theorem Uj(h:P:=by rw[he];rfl):P:=h
theorem Ul(h:P:=by rw[e]):P:=h
theorem blA(w:World)(o:Obj):Below w.heap.size w (w.alloc o):=(Below.refl _ _).alloc (Nat.le_refl _) _
theorem htr{w w1 w2:World}(h:Hid (Below w.heap.size w w1))(k:Below w1.heap.size w1 w2):Hid (Below w.heap.size w w2):=hid (h.out.trans (k.mono h.out.size))
theorem hd2(x:a)(y:b):Hid a/\Hid b:=⟨hid x,hid y⟩
theorem hd3(x:a)(y:b)(z:c):Hid a/\Hid b/\Hid c:=⟨hid x,hid y,hid z⟩
theorem hd4(x:a)(y:b)(z:c)(u:d):Hid a/\Hid b/\Hid c/\Hid d:=⟨hid x,hid y,hid z,hid u⟩
theorem hd5(x:a)(y:b)(z:c)(u:d)(v:e):Hid a/\Hid b/\Hid c/\Hid d/\Hid e:=⟨hid x,hid y,hid z,hid u,hid v⟩
theorem hd6{f:Prop}(x:a)(y:b)(z:c)(u:d)(v:e)(w:f):Hid a/\Hid b/\Hid c/\Hid d/\Hid e/\Hid f:=⟨hid x,hid y,hid z,hid u,hid v,hid w⟩
theorem bn0{α:Type}[BEq α][LawfulBEq α]{a b:α}(h:a≠b):(a==b)=false:=by rw[beq_eq_false_iff_ne];exact h
theorem zux(x:a)(y:b):a/\b:=⟨x,y⟩
abbrev Za:=@Nat.le_refl
abbrev Zb:=@Nat.lt_of_lt_of_le
abbrev Zc:=@List.getElem?_cons_succ
abbrev Zd:=@List.getD_eq_getElem?_getD
abbrev Ze:=@Below.refl
abbrev Zf:=@List.getElem?_cons_zero
abbrev Zg:=@if_neg
abbrev Zh:=@List.getElem?_eq_getElem
abbrev Zi:=@Nat.le_trans
abbrev Zj:=@decide_eq_false
abbrev Zk:=@decide_eq_true
abbrev Zl:=@Nat.mul_le_mul_right
abbrev Zm:=@if_pos
abbrev Zn:=@Bool.false_eq_true
abbrev Zo:=@List.take_succ_cons
abbrev Zp:=@bodyPost_ret
abbrev Zq:=@List.mem_of_getElem?
abbrev Zr:=@List.getElem?_eq_some_iff
abbrev Zs:=@Nat.zero_le
abbrev Zt:=@Nat.pow_le_pow_right
abbrev Zu:=@Bool.and_eq_true
abbrev Zv:=@List.length_map
abbrev Zw:=@List.take_zero
abbrev Zx:=@false_implies
abbrev Zy:=@List.eq_nil_of_length_eq_zero
abbrev Zz:=@List.getElem?_append_left
abbrev ZA:=@World.cell?_setCell_other
abbrev ZB:=@forall_const
abbrev ZC:=@decide_eq_true_eq
abbrev ZD:=@Nat.mul_comm
abbrev ZE:=@List.length_append
abbrev ZF:=@Array.getElem?_eq_some_iff
abbrev ZG:=@List.drop_succ_cons
abbrev ZH:=@List.length_cons
abbrev ZI:=@List.getElem?_append_right
abbrev ZJ:=@List.length_pos_iff
abbrev ZK:=@Nat.add_mul
abbrev ZL:=@Nat.mul_assoc
abbrev ZM:=@List.take_of_length_le
abbrev ZN:=@List.getElem?_map
abbrev ZO:=@List.drop_zero
abbrev ZP:=@List.mem_map
abbrev ZQ:=@Nat.mul_le_mul_left
abbrev ZR:=@Nat.zero_add
abbrev ZS:=@World.cell?_of_block
abbrev ZT:=@List.mem_of_mem_take
abbrev ZU:=@Nat.add_zero
abbrev ZV:=@Array.getD_eq_getD_getElem?
abbrev ZW:=@List.append_assoc
abbrev ZX:=@List.mem_of_mem_drop
abbrev ZY:=@Nat.mul_le_mul
abbrev ZZ:=@Bool.eq_iff_iff
abbrev Z0:=@and_true
abbrev Z1:=@List.getElem_mem
abbrev Z3:=@World.cell?_setCell_same
abbrev Z4:=@Bool.true_and
abbrev Z5:=@List.mem_range
abbrev Z6:=@true_and
abbrev Z7:=@Nat.mod_lt
abbrev Z8:=@List.length_take
abbrev Z9:=@Nat.pow_add
abbrev Zaa:=@Nat.lt_succ_self
abbrev Zab:=@List.range_succ
abbrev Zac:=@Nat.succ_mul
abbrev Zad:=@Nat.le_mul_of_pos_left
abbrev Zae:=@List.take_length
abbrev Zaf:=@beq_eq_false_iff_ne
abbrev Zag:=@decide_eq_false_iff_not
abbrev Zah:=@List.getLast?_eq_getElem?
abbrev Zai:=@World.frozen?_setCell
abbrev Zaj:=@Nat.le_succ
abbrev Zak:=@Nat.mul_pos
abbrev Zal:=@List.mem_cons_self
abbrev Zam:=@List.getElem?_range
abbrev Zan:=@Nat.le_of_lt
abbrev Zao:=@Nat.one_mul
abbrev Zap:=@List.take_add_one
abbrev Zaq:=@Addr.add_lit
abbrev Zar:=@List.mem_append
abbrev Zas:=@Nat.pow_succ
abbrev Zat:=@Nat.add_assoc
abbrev Zau:=@List.all_eq_true
abbrev Zav:=@List.length_range
abbrev Zaw:=@World.ownsRow_nil
abbrev Zax:=@List.length_nil
abbrev Zay:=@List.map_append
abbrev Zaz:=@Nat.pos_of_ne_zero
abbrev ZaA:=@Nat.add_sub_cancel
abbrev ZaB:=@Nat.lt_of_le_of_lt
abbrev ZaC:=@Nat.lt_or_ge
abbrev ZaD:=@Nat.div_lt_iff_lt_mul
abbrev ZaE:=@Nat.le_mul_of_pos_right
abbrev ZaF:=@Array.getElem?_setIfInBounds
abbrev ZaG:=@Option.some.injEq
abbrev ZaH:=@Int.toNat_natCast
abbrev ZaI:=@Nat.eq_zero_or_pos
abbrev ZaJ:=@List.map_congr_left
abbrev ZaK:=@List.append_nil
abbrev ZaL:=@Nat.mod_eq_of_lt
abbrev ZaM:=@Nat.div_eq_of_lt
abbrev ZaN:=@Int.mul_le_mul
abbrev ZaO:=@Nat.add_sub_cancel_left
abbrev ZaP:=@List.mem_cons_of_mem
abbrev ZaQ:=@List.mem_append_left
abbrev ZaR:=@List.drop_eq_getElem_cons
abbrev ZaS:=@beq_iff_eq
abbrev ZaT:=@World.frozen?_of_block
abbrev ZaU:=@Nat.div_add_mod
abbrev ZaV:=@List.nil_append
abbrev ZaW:=@List.getElem?_eq_none
abbrev ZaX:=@List.getElem?_of_mem
abbrev ZaY:=@List.mem_of_getLast?
abbrev ZaZ:=@List.getElem?_take_of_lt
abbrev Za0:=@Nat.two_pow_pos
abbrev Za1:=@Nat.div_le_self
abbrev Za2:=@World.frozen?_alloc_new
abbrev Za3:=@List.mem_flatMap
abbrev Za4:=@Rat.zero_add
abbrev Za5:=@Rat.add_zero
abbrev Za6:=@List.length_drop
abbrev Za7:=@List.mem_cons
abbrev Za8:=@heap_alloc_new
abbrev Za9:=@Nat.mul_add
abbrev Zba:=@Nat.mul_one
abbrev Zbb:=@Int.natCast_mul
abbrev Zbc:=@Nat.ne_of_lt
abbrev Zbd:=@Nat.div_div_eq_div_mul
abbrev Zbe:=@Nat.zero_mul
abbrev Zbf:=@List.map_cons
abbrev Zbg:=@World.size_alloc
abbrev Zbh:=@Bool.and_false
abbrev Zbi:=@Nat.mul_right_comm
abbrev Zbj:=@List.length_replicate
abbrev Zbk:=@Array.mem_of_getElem?
abbrev Zbl:=@Array.getElem?_modify
abbrev Zbm:=@Array.getElem?_eq_getElem
abbrev Zbn:=@Rat.one_mul
abbrev Zbo:=@Nat.lt_trichotomy
abbrev Zbp:=@toList_madeCells_one
abbrev Zbq:=@List.eq_of_mem_replicate
abbrev Zbr:=@List.drop_length
abbrev Zbs:=@World.block_lt_of_cell?
abbrev Zbt:=@Nat.add_comm
abbrev Zbu:=@List.map_map
abbrev Zbv:=@Below.heap_setCell
abbrev Zbw:=@Nat.le_add_left
abbrev Zbx:=@List.all_append
abbrev Zby:=@Rat.mkRat_one
abbrev Zbz:=@Bool.not_eq_true
abbrev ZbA:=@Nat.le_of_eq

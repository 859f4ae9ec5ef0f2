/-
  Two small lemmas for texts of the claim: a new block leaves what was there;what is hidden goes on.
-/
import Derived.Below
import Derived.Lib.Hide
namespace Go.Proofs.YtfgmmghmmfmdgaaGreat
open Go.RowKit
open Go.Lib (hid)
variable {P a b c d e:Prop}
theorem Ya(h:P:=by omega):P:=h
theorem Yb(h:P:=by decide):P:=h
theorem Yc(h:P:=by kernel_rfl):P:=h
theorem Yd(h:P:=by simp):P:=h
theorem Ye(h:P:=by simp only[hW]):P:=h
theorem Yf(h:P:=by unfold Hid;rw[HK.out,f0,f1];rfl):P:=h
theorem Yh(h:P:=by unfold maxLen;omega):P:=h
theorem Yi(h:P:=by unfold Hid;rw[HK.out];rfl):P:=h
theorem Yj(h:P:=by simp;omega):P:=h
theorem Yk(h:P:=by unfold Hid;rw[HK.out,f0,f1,f2,f3];rfl):P:=h
theorem Yl(h:P:=by rw[<- hx];exact zz h.lim):P:=h
theorem Ym(h:P:=by unfold Hid;rw[HK.out,f0];rfl):P:=h
theorem Yn(h:P:=by rw[beq_iff_eq];omega):P:=h
theorem Yp(h:P:=by intro u hu;simp at hu;rcases hu with rfl|rfl|rfl<;>rfl):P:=h
theorem Yq(h:P:=by have h:=HM.out.own.alloc (.cells #[.int .i64 5,.int .i64 0,.int .i64 0,.int .i64 0,.int .i64 0,.int .i64 0,.int .i64 0,.slice none 0 0,.slice none 0 0] 44);rw[zba]at h;exact h):P:=h
theorem Yr(h:P:=by intro e;cases e):P:=h
theorem Ys(h:P:=by unfold Hid;rw[<- HRd.out,HE1.out,h2];rfl):P:=h
theorem Yt(h:P:=by unfold Hid;rw[<- HRk.out,g1,g2];rfl):P:=h
theorem Yu(h:P:=by unfold Hid;rw[HK.out,f0,f1,f2];rfl):P:=h
theorem Yv(h:P:=by simp only[zsM];omega):P:=h
theorem Yw(h:P:=by unfold Hid;rw[<- HRd.out,h1];rfl):P:=h
theorem Yx(h:P:=by rw[HStep.out];exact HG5.out.app hown hg hnx):P:=h
theorem Yy(h:P:=by have:=HF.out.a.lt;omega):P:=h
theorem Yz(h:P:=by rw[<- Int.natCast_mul,<- hn];exact IntWalk.i64_in _ (by omega)):P:=h
theorem Y0(h:P:=by rw[List.length_take];omega):P:=h
theorem Y1(h:P:=by rw[<- hy];exact zz g.lim):P:=h
theorem Y2(h:P:=by have:= ‹Below W.heap.size W _›.size;first|exact this|(simp at this⊢;omega)):P:=h
theorem Y4(h:P:=by rw[HTl.out];exact hlt):P:=h
theorem Y5(h:P:=by unfold Hid;rw[<- HRk.out,g1,g2,g3];rfl):P:=h
theorem Y8(h:P:=by simpa using ho):P:=h
theorem Y9(h:P:=by have h:=HS.out.below ((Below.refl w.heap.size w).alloc (Nat.le_refl _) (.cells #[] 109));rw[HLn.out]at h;exact h):P:=h
theorem YB(h:P:=by rw[List.length_map];omega):P:=h
theorem YC(h:P:=by assumption):P:=h
theorem YD(h:P:=by rw[List.all_eq_false];exact⟨s,HMem.out,by simp[hv]⟩):P:=h
theorem YE(h:P:=by unfold Hid;rw[<- HRk.out];rfl):P:=h
theorem YG(h:P:=by cases h):P:=h
theorem YH(h:P:=by unfold za5;rw[if_neg (by omega),if_neg (by omega),if_neg (by omega),if_neg (by omega),if_neg (by omega)]):P:=h
theorem YI(h:P:=by rw[decide_eq_false_iff_not];omega):P:=h
theorem YJ(h:P:=by unfold Hid;rw[<- HRd.out,HE1.out,HE2.out,decide_eq_true g1,decide_eq_true g2,decide_eq_true g3,e3];rfl):P:=h
theorem YK(h:P:=by obtain⟨p0,p1,p2,p3,e0,e1,e2,e3,e4⟩:=HEl.out q x hx;exact⟨p0,p1,p2,p3,e0,e1,e2,e3,zaR.below e4 hb5⟩):P:=h
theorem YL(h:P:=by unfold Hid;rw[<- HRk.out,g1];rfl):P:=h
theorem YM(h:P:=by have:=HU.out;omega):P:=h
theorem YN(h:P:=by unfold Hid;rw[<- HRd.out,hok,Bool.and_false];rfl):P:=h
theorem YO(h:P:=by unfold za5;rw[if_neg (by omega),if_neg (by omega),if_neg (by omega),if_neg (by omega),if_pos hk]):P:=h
theorem YP(h:P:=by exact hf):P:=h
theorem YR(h:P:=by unfold Hid;rw[<- HRk.out,g1,decide_eq_true g2,decide_eq_true g3,decide_eq_true g4,HG5.out,g6];rfl):P:=h
theorem YS(h:P:=by rw[<- hrel.out,zov hk hlt];rfl):P:=h
theorem YT(h:P:=by have:=HM.out;unfold Hid;rw[Nat.succ_mul];omega):P:=h
theorem YU(h:P:=by rw[hl,hcs,<- Nat.add_mul];exact Nat.mul_le_mul_right _ hroom):P:=h
theorem YW(h:P:=by show(zB f r (f U b).1).1=_;rw[e2,e1,List.append_assoc]):P:=h
theorem YX(h:P:=by rw[HGs.out,zdO,HM.out,HT.out];exact Nat.le_refl _):P:=h
theorem YY(h:P:=by rw[bne_iff_ne];omega):P:=h
theorem YZ(h:P:=by cases e;exact HFr.out):P:=h
theorem Xa(h:P:=by rw[bne_iff_ne];exact he):P:=h
theorem Xb(h:P:=by rw[decide_eq_true_eq];omega):P:=h
theorem Xc(h:P:=by unfold za5;rw[if_neg (by omega),if_neg (by omega),if_pos (by omega),HZ2.out,HS0.out]):P:=h
theorem Xd(h:P:=by have:=HOK.out;rw[Bool.and_eq_true]at this;exact this.2):P:=h
theorem Xe(h:P:=by have:=HT.out;omega):P:=h
theorem Xf(h:P:=by have h:=hwv'.out.below hbw2;rw[HHv.out.2]at h;rw[<- HHv.out.2]at h⊢;exact h):P:=h
theorem Xg(h:P:=by rw[zas (by omega)];exact ha i h1 h2):P:=h
theorem Xh(h:P:=by rw[<- HP.out];exact hlt):P:=h
theorem Xi(h:P:=by have h:=HM.out.own.alloc (zbu l b1 d1 b2 d2 44);rw[zba]at h;exact h):P:=h
theorem Xj(h:P:=by rw[List.length_append,zba];rfl):P:=h
theorem Xk(h:P:=by have:=HT.out.b.lt;omega):P:=h
theorem Xl(h:P:=by rw[HStep.out];exact hown):P:=h
theorem Xm(h:P:=by unfold I64;omega):P:=h
theorem Xn(h:P:=by have:=hB.size;have:=hBc.size;omega):P:=h
theorem Xo(h:P:=by rw[show p1-p0=n by have:=HP01.out;omega];rfl):P:=h
theorem Xp(h:P:=by rw[HTl.out];omega):P:=h
theorem Xq(h:P:=by rw[HQ1.out,hL];exact HST.out false):P:=h
theorem Xv(h:P:=by unfold za5;rw[if_neg (by omega),if_neg (by omega),if_pos (by omega)]):P:=h
theorem Xw(h:P:=by intro k hk;simp[Value.ownBlock]at hk;omega):P:=h
theorem Xx(h:P:=by rw[hs'];rfl):P:=h
theorem Xy(h:P:=by unfold Hid;rw[<- HRd.out,hvi];rfl):P:=h
theorem Xz(h:P:=by rw[HTl.out];exact Nat.le_refl _):P:=h
theorem X0(h:P:=by show(if u=u then q else _)=q;rw[if_pos rfl]):P:=h
theorem X4(h:P:=by intro u hu;simp at hu;rcases hu with rfl|rfl|rfl|rfl<;>rfl):P:=h
theorem X5(h:P:=by have:=HQ.out;omega):P:=h
theorem X6(h:P:=by simpa using he):P:=h
theorem X7(h:P:=by unfold Hid;rw[<- HRd.out,e1];rfl):P:=h
theorem X8(h:P:=by have:=HM.out.be.size;simp;omega):P:=h
theorem XA(h:P:=by have h:=zgM v q;have h2:=HNL.out;rw[List.length_append];omega):P:=h
theorem XB(h:P:=by simp[Hid]):P:=h
theorem XC(h:P:=by rw[getD_set_ne _ (by omega)];exact hl j hj):P:=h
theorem XD(h:P:=by rw[zba];exact HOwn.out):P:=h
theorem XE(h:P:=by rw[zaQ,zdO];omega):P:=h
theorem XF(h:P:=by have:=HV.out;rwa [List.take_length]at this):P:=h
theorem XG(h:P:=by unfold Hid;simpa [zB,zgY]using HGy.out):P:=h
theorem XH(h:P:=by first|exact HRA.out|(rw[if_neg (by omega)];exact HRA.out)):P:=h
theorem XI(h:P:=by first|exact HRB.out|(rw[if_neg (by omega)];exact HRB.out)):P:=h
theorem XJ(h:P:=by rw[hp1,hp0,Nat.succ_mul]):P:=h
theorem XK(h:P:=by rw[hp1];exact Nat.le_trans (Nat.mul_le_mul_right _ hlt) Hwl.out):P:=h
theorem XL(h:P:=by simp only[Nat.zero_add]at hbytes;omega):P:=h
theorem XM(h:P:=by simp only[maxLen]at h63;omega):P:=h
theorem XN(h:P:=by rw[hsz];exact hlt):P:=h
theorem XO(h:P:=by unfold Hid;rw[<- HRd.out,HE1.out,e2];rfl):P:=h
theorem XP(h:P:=by rw[HT2.out];omega):P:=h
theorem XQ(h:P:=by unfold Hid;rw[<- HRk.out,HG1.out,g2];rfl):P:=h
theorem XR(h:P:=by cases hv:v.ownBlock<;>simp):P:=h
theorem XS(h:P:=by first|rfl|exact True.intro):P:=h
theorem XT(h:P:=by simp[hs]):P:=h
theorem XV(h:P:=by rw[hn];exact Nat.mul_pos hq.kh1 hq.kw1):P:=h
theorem XW(h:P:=by have:=HM.out;unfold Hid;omega):P:=h
theorem XX(h:P:=by have h:=congrArg zbc e;rwa [zax,zax]at h):P:=h
theorem XY(h:P:=by rw[<- HN9.out];exact HO9.out):P:=h
theorem XZ(h:P:=by simpa using hu):P:=h
theorem Ka(h:P:=by have:=HS.out;rw[List.drop_length]at this;exact this.symm):P:=h
theorem Kb(h:P:=by unfold Hid;simpa [zB]using HGy.out):P:=h
theorem Kd(h:P:=by rw[hQ.out];exact RatV.store hN5.out k3 k4 K5.out K6.out):P:=h
theorem Ke(h:P:=by unfold Hid;rw[HTk.out,HV.out,hv];rfl):P:=h
theorem Kf(h:P:=by unfold Hid;rw[HCu.out];exact HIs.out):P:=h
theorem Kg(h:P:=by rw[<- hrel.out,HD.out,zdP (.inr (.inl c2))]):P:=h
theorem Kh(h:P:=by rw[<- hrel.out,HD.out,zdP (.inr (.inr c3))]):P:=h
theorem Ki(h:P:=by rw[hs,hsz]):P:=h
theorem Kj(h:P:=by rw[HP.out];intro x hx;have:=hq.one_bd r c x hx;omega):P:=h
theorem Kk(h:P:=by have:=HG.out;rw[Nat.gcd_zero_right]at this;exact this):P:=h
theorem Kl(h:P:=by intro u hu;simp at hu;subst hu;rfl):P:=h
theorem Km(h:P:=by have:=(HO.out.own.lt b e).2;have:=(hob b hb).1;omega):P:=h
theorem Kn(h:P:=by have:=zmX (show q<4294967296 by omega) b4;omega):P:=h
theorem Ko(h:P:=by have:=HRd.out;rw[hvm,if_pos rfl]at this;exact this):P:=h
theorem Kp(h:P:=by unfold Hid;rw[<- HRd.out,hvm];rfl):P:=h
theorem Kq(h:P:=by simpa using hb):P:=h
theorem Kr(h:P:=by have:=ziP.1 e;omega):P:=h
theorem Kt(h:P:=by have:=HI.out.lB;rw[List.length_cons]at this;omega):P:=h
theorem Ku(h:P:=by rw[<- hrel.out,HD.out,zh8 c1 c2 c3];rfl):P:=h
theorem Kv(h:P:=by unfold Hid;rw[zf8,<- HSl.out];exact HT.out):P:=h
theorem Kw(h:P:=by have:=hBc.size;have:=hbI.size;simp at this;omega):P:=h
theorem Kx(h:P:=by unfold Hid;omega):P:=h
theorem Ky(h:P:=by rw[beq_eq_false_iff_ne];exact e1):P:=h
theorem Kz(h:P:=by rw[beq_eq_false_iff_ne];exact hE):P:=h
theorem K0(h:P:=by unfold Hid;rw[<- HRd.out,decide_eq_false e1];rfl):P:=h
theorem KA(h:P:=by have:=HStep.out;rw[if_pos he]at this;exact this):P:=h
theorem KE(h:P:=by rw[List.append_nil];rfl):P:=h
theorem KF(h:P:=by rw[<- hrel.out,HD.out,zdP (.inl c1)]):P:=h
theorem KG(h:P:=by have h:=HOw2.out.own;rw[HTl.out]at h;exact h):P:=h
theorem KI(h:P:=by rw[H3.out];exact hlk):P:=h
theorem KJ(h:P:=by simp[hE]):P:=h
theorem KK(h:P:=by unfold zed;rw[if_neg (by omega),if_pos rfl]):P:=h
theorem KM(h:P:=by unfold Hid zaB;rw[e1,e2,e3,e4,e5,e6,e7];rfl):P:=h
theorem KN(h:P:=by unfold Hid;rw[List.length_append,HTl.out];rfl):P:=h
theorem KO(h:P:=by rw[zaQ,HGs.out,zdO,HM.out,HT.out]):P:=h
theorem KP(h:P:=by rw[<- Nat.pow_add,show 32-k+k=32 by omega]):P:=h
theorem KS(h:P:=by have h1:=HB2.out.size;have h2:=HGg.out;omega):P:=h
theorem KT(h:P:=by rw[g0,hk]):P:=h
theorem KU(h:P:=by first|exact HWnn.out _ _|exact HWn.out _):P:=h
theorem KX(h:P:=by rw[Nat.zero_add]):P:=h
theorem KY(h:P:=by unfold Hid;rw[TA.out,TB.out,HT.out,HXY.out]):P:=h
theorem Ja(h:P:=by have:=zaD (Nat.sub_le y x);omega):P:=h
theorem Jb(h:P:=by have:=zaD (Nat.sub_le x y);omega):P:=h
theorem Jd(h:P:=by unfold Hid;simpa [zap]using zdZ.start wq):P:=h
theorem Je(h:P:=by unfold Hid;rw[<- HRk.out,g1,HG2.out,g3];rfl):P:=h
theorem Jf(h:P:=by rw[<- hp];exact IntWalk.i64_in _ (by omega)):P:=h
theorem Jg(h:P:=by rw[<- hq];exact IntWalk.i64_in _ (by omega)):P:=h
theorem Jh(h:P:=by have h:=HLw.out.bl;rw[HGg.out]at h;exact h):P:=h
theorem Ji(h:P:=by rw[HCe.out];exact zkv hqB HK.out.vl k):P:=h
theorem Jj(h:P:=by rw[<- h3];exact zz h2.lim):P:=h
theorem Jk(h:P:=by rw[<- g3];exact zz g2.lim):P:=h
theorem Jl(h:P:=by simpa [World.cell?,World.setRow]using ee):P:=h
theorem Jm(h:P:=by show(if u=v then q else _)=_;rw[if_neg k]):P:=h
theorem Jn(h:P:=by rw[hp1];exact IntWalk.i64_in _ (by omega)):P:=h
theorem Jo(h:P:=by rw[hp2];exact IntWalk.i64_in _ (by omega)):P:=h
theorem Jp(h:P:=by rw[hp3];exact IntWalk.i64_in _ (by omega)):P:=h
theorem Jq(h:P:=by rw[if_pos (by unfold zdB;simp)];exact hL):P:=h
theorem Jr(h:P:=by simpa using h.lt):P:=h
theorem Js(h:P:=by rw[zeJ (fun _ _=>rfl)];simp[zx]):P:=h
theorem Jt(h:P:=by rw[HL.out];exact HBl2.out _ HDn.out.symm):P:=h
theorem Ju(h:P:=by rw[HLn.out];omega):P:=h
theorem Jv(h:P:=by simp[he]):P:=h
theorem Jw(h:P:=by rw[List.append_nil]):P:=h
theorem Jx(h:P:=by simpa using h.below (Below.refl _ _).drew):P:=h
theorem Jy(h:P:=by rw[HT2.out,HE1.out];have:=HU.out;omega):P:=h
theorem Jz(h:P:=by rw[hp1];exact Nat.mul_le_mul_right _ hlt):P:=h
theorem JA(h:P:=by show zbY _ _=false;rw[hcs0];exact hs):P:=h
theorem JB(h:P:=by unfold zdB;rw[if_pos rfl]):P:=h
theorem JC(h:P:=by first|(intro _;rfl)|(intro e;cases e)):P:=h
theorem JD(h:P:=by have:=HP01.out;omega):P:=h
theorem JE(h:P:=by rw[List.length_map,H1.out];exact hmul):P:=h
theorem JF(h:P:=by have h:=HRe.out;rw[hraw]at h;exact h):P:=h
theorem JG(h:P:=by show zbY _ _=true;rw[hcs0];exact hs):P:=h
theorem JH(h:P:=by unfold Hid;rw[List.length_cons,HYl.out]):P:=h
theorem JI(h:P:=by rw[<- HQ.out];exact hkq):P:=h
theorem JJ(h:P:=by unfold upd;rw[if_pos rfl]):P:=h
theorem JK(h:P:=by rw[zbk,zbk,zcj];omega):P:=h
theorem JL(h:P:=by intro h;rw[h]at hn;simp at hn;omega):P:=h
theorem JM(h:P:=by unfold Hid;rw[zdR];exact HBl.out):P:=h
theorem JN(h:P:=by rw[List.length_map,H2.out];exact hlt):P:=h
theorem JO(h:P:=by unfold maxLen at hm;omega):P:=h
theorem JP(h:P:=by have:=(hob b hb).1;have:=hB.size;omega):P:=h
theorem JQ(h:P:=by intro j u hj;simp at hj):P:=h
theorem JR(h:P:=by simpa using Array.mem_of_getElem? hu):P:=h
theorem JT(h:P:=by unfold zhl;rw[if_neg hk5,if_neg hk3]):P:=h
theorem JV(h:P:=by first|exact hfl|rfl):P:=h
theorem JW(h:P:=by unfold Hid;rw[zi,zi]):P:=h
theorem JX(h:P:=by simp only[World.cell?,hg];exact hj):P:=h
theorem JY(h:P:=by simpa using List.mem_of_mem_take hu):P:=h
theorem JZ(h:P:=by simpa using List.mem_of_mem_drop hu):P:=h
theorem Va(h:P:=by have:=HI.out.lB;simpa using this.symm):P:=h
theorem Vb(h:P:=by rw[beq_iff_eq];exact e1):P:=h
theorem Vc(h:P:=by rw[bne_iff_ne];exact hE):P:=h
theorem Vd(h:P:=by unfold Hid;rw[TA.out,TB.out,HT.out]):P:=h
theorem Ve(h:P:=by rw[HQ1.out,hL];exact HST1.out false):P:=h
theorem Vf(h:P:=by unfold Hid;rw[HT.out,HA.out,hq];rfl):P:=h
theorem Vg(h:P:=by rcases h with h|h<;>(rw[h];rfl)):P:=h
theorem Vh(h:P:=by rw[zay];exact Nat.le_refl _):P:=h
theorem Vi(h:P:=by decide+kernel):P:=h
theorem Vj(h:P:=by unfold ub;rw[h1];subst e2;exact e):P:=h
theorem Vk(h:P:=by rw[rfl']at e0;simpa using e0.symm):P:=h
theorem Vl(h:P:=by rw[rfl']at e1;simpa using e1.symm):P:=h
theorem Vm(h:P:=by rw[rfl']at e2;simpa using e2.symm):P:=h
theorem Vn(h:P:=by unfold Win.at zmH;rw[if_pos hin]):P:=h
theorem Vo(h:P:=by unfold Win.at zmH;rw[if_neg hin]):P:=h
theorem Vp(h:P:=by unfold Hid;rw[zdR];exact HB0):P:=h
theorem Vq(h:P:=by intro u hu;simp at hu):P:=h
theorem Vr(h:P:=by unfold Hid;rw[List.map_append];rfl):P:=h
theorem Vs(h:P:=by have:=HTj.out;unfold maxLen;omega):P:=h
theorem Vt(h:P:=by rw[zas hi];exact h.un.below hb):P:=h
theorem Vu(h:P:=by rw[hln,HLen.out l hmem];exact hmul):P:=h
theorem Vv(h:P:=by rw[hsz];exact hq.all_lt ix hi i hj):P:=h
theorem Vw(h:P:=by rw[hE];rfl):P:=h
theorem Vx(h:P:=by unfold upd;rw[if_pos rfl];exact hP):P:=h
theorem Vy(h:P:=by simp[hk]):P:=h
theorem Vz(h:P:=by rw[HBe.out];exact zlW _ _ _ _):P:=h
theorem V0(h:P:=by rw[HQ1.out,hL];exact HST.out true):P:=h
theorem V3(h:P:=by unfold Hid;rw[<- HRe.out,hvo];rfl):P:=h
theorem V4(h:P:=by rw[hW,List.length_append];omega):P:=h
theorem V5(h:P:=by rw[hln,HLen.out l hmem];exact hcn):P:=h
theorem V6(h:P:=by rw[hp1];simp):P:=h
theorem V7(h:P:=by rw[HSl.out];exact Nat.le_refl _):P:=h
theorem V8(h:P:=by rw[HCO.out.len];exact HCO.out.few):P:=h
theorem V9(h:P:=by rw[<- HQ.out];omega):P:=h
theorem VA(h:P:=by simpa using hown):P:=h
theorem VB(h:P:=by rw[hne.out];rfl):P:=h
theorem VC(h:P:=by simpa using hi):P:=h
theorem VD(h:P:=by simp[Win.total]):P:=h
theorem VE(h:P:=by simp[Value.ownBlock]):P:=h
theorem VF(h:P:=by rw[hvl];omega):P:=h
theorem VG(h:P:=by rw[hkk];omega):P:=h
theorem VH(h:P:=by rw[htl];exact hil'):P:=h
theorem VI(h:P:=by have:=HOl.out;omega):P:=h
theorem VJ(h:P:=by simpa using h):P:=h
theorem VK(h:P:=by simp[zJ,hv]):P:=h
theorem VL(h:P:=by simp[Value.cells]):P:=h
theorem VM(h:P:=by rw[hsz];exact hn):P:=h
theorem VN(h:P:=by simpa using hj.symm):P:=h
theorem VO(h:P:=by rw[he];rfl):P:=h
theorem VP(h:P:=by rw[e1,e2];rfl):P:=h
theorem VQ(h:P:=by rw[hsz];exact h):P:=h
theorem VR(h:P:=by intro g h;cases h):P:=h
theorem VS(h:P:=by cases e):P:=h
theorem VT(h:P:=by rw[h];simp):P:=h
theorem VU(h:P:=by rw[HDn.out];rfl):P:=h
theorem VV(h:P:=by rw[E.out]):P:=h
theorem VW(h:P:=by rw[he];simp):P:=h
theorem VX(h:P:=by simp[zbH]):P:=h
theorem VY(h:P:=by simp[zaY]):P:=h
theorem VZ(h:P:=by rw[HN9.out]):P:=h
theorem Ua(h:P:=by simpa using hj):P:=h
theorem Ub(h:P:=by simpa using hg):P:=h
theorem Uc(h:P:=by simp[h1]):P:=h
theorem Ud(h:P:=by rw[hs];rfl):P:=h
theorem Ue(h:P:=by rw[e]):P:=h
theorem blA(w:World)(o:Obj):Below w.heap.size w (w.alloc o):=(Below.refl _ _).alloc (Nat.le_refl _) _
theorem htr{w w1 w2:World}(h:Hid (Below w.heap.size w w1))(k:Below w1.heap.size w1 w2):Hid (Below w.heap.size w w2):=hid (h.out.trans (k.mono h.out.size))
theorem hd2(x:a)(y:b):Hid a/\Hid b:=⟨hid x,hid y⟩
theorem hd3(x:a)(y:b)(z:c):Hid a/\Hid b/\Hid c:=⟨hid x,hid y,hid z⟩
theorem hd4(x:a)(y:b)(z:c)(u:d):Hid a/\Hid b/\Hid c/\Hid d:=⟨hid x,hid y,hid z,hid u⟩
theorem hd5(x:a)(y:b)(z:c)(u:d)(v:e):Hid a/\Hid b/\Hid c/\Hid d/\Hid e:=⟨hid x,hid y,hid z,hid u,hid v⟩
theorem hd6{f:Prop}(x:a)(y:b)(z:c)(u:d)(v:e)(w:f):Hid a/\Hid b/\Hid c/\Hid d/\Hid e/\Hid f:=⟨hid x,hid y,hid z,hid u,hid v,hid w⟩
theorem bn0{α:Type}[BEq α][LawfulBEq α]{a b:α}(h:a≠b):(a==b)=false:=by rw[beq_eq_false_iff_ne];exact h
theorem zto(x:a)(y:b):a/\b:=⟨x,y⟩
abbrev Za:=@Nat.le_refl
abbrev Zb:=@List.getElem?_cons_succ
abbrev Zc:=@List.getElem?_cons_zero
abbrev Zd:=@Nat.lt_of_lt_of_le
abbrev Ze:=@Bool.false_eq_true
abbrev Zf:=@List.getD_eq_getElem?_getD
abbrev Zg:=@Below.refl
abbrev Zh:=@if_neg
abbrev Zi:=@false_implies
abbrev Zj:=@forall_const
abbrev Zk:=@decide_eq_true
abbrev Zl:=@Nat.le_trans
abbrev Zm:=@List.take_succ_cons
abbrev Zn:=@List.getElem?_eq_getElem
abbrev Zo:=@decide_eq_false
abbrev Zp:=@Nat.mul_le_mul_right
abbrev Zq:=@if_pos
abbrev Zr:=@bodyPost_ret
abbrev Zs:=@Nat.zero_le
abbrev Zt:=@List.mem_of_getElem?
abbrev Zu:=@List.getElem?_eq_some_iff
abbrev Zv:=@List.take_zero
abbrev Zw:=@Bool.and_eq_true
abbrev Zx:=@List.getElem?_append_left
abbrev Zy:=@decide_eq_true_eq
abbrev Zz:=@Nat.mul_comm
abbrev ZA:=@List.eq_nil_of_length_eq_zero
abbrev ZB:=@List.length_append
abbrev ZC:=@World.cell?_setCell_other
abbrev ZD:=@List.drop_succ_cons
abbrev ZE:=@Nat.pow_le_pow_right
abbrev ZF:=@Array.getElem?_eq_some_iff
abbrev ZG:=@List.getElem?_append_right
abbrev ZH:=@List.length_pos_iff
abbrev ZI:=@Nat.add_mul
abbrev ZJ:=@List.length_cons
abbrev ZK:=@and_true
abbrev ZL:=@true_and
abbrev ZM:=@Nat.mul_assoc
abbrev ZN:=@List.drop_zero
abbrev ZO:=@Nat.zero_add
abbrev ZP:=@List.length_map
abbrev ZQ:=@List.take_of_length_le
abbrev ZR:=@World.cell?_of_block
abbrev ZS:=@Array.getD_eq_getD_getElem?
abbrev ZT:=@Nat.mul_le_mul_left
abbrev ZU:=@World.cell?_setCell_same
abbrev ZV:=@List.getElem?_map
abbrev ZW:=@Nat.add_zero
abbrev ZX:=@List.mem_map
abbrev ZY:=@Bool.eq_iff_iff
abbrev ZZ:=@List.length_take
abbrev Z0:=@Bool.true_and
abbrev Z1:=@Nat.mod_lt
abbrev Z3:=@List.take_length
abbrev Z4:=@List.mem_of_mem_take
abbrev Z5:=@List.mem_range
abbrev Z6:=@Nat.le_of_lt
abbrev Z7:=@beq_eq_false_iff_ne
abbrev Z8:=@Nat.mul_le_mul
abbrev Z9:=@List.append_assoc
abbrev Zaa:=@Nat.succ_mul
abbrev Zab:=@Nat.le_succ
abbrev Zac:=@decide_eq_false_iff_not
abbrev Zad:=@List.range_succ
abbrev Zae:=@List.mem_cons_self
abbrev Zaf:=@Nat.pow_add
abbrev Zag:=@Nat.le_mul_of_pos_left
abbrev Zah:=@Nat.one_mul
abbrev Zai:=@Nat.lt_succ_self
abbrev Zaj:=@List.length_range
abbrev Zak:=@Nat.pos_of_ne_zero
abbrev Zal:=@Nat.add_sub_cancel
abbrev Zam:=@World.frozen?_setCell
abbrev Zan:=@Nat.lt_or_ge
abbrev Zao:=@Nat.div_lt_iff_lt_mul
abbrev Zap:=@List.all_eq_true
abbrev Zaq:=@Array.getElem?_setIfInBounds
abbrev Zar:=@World.ownsRow_nil
abbrev Zas:=@Option.some.injEq
abbrev Zat:=@List.take_add_one
abbrev Zau:=@List.mem_of_mem_drop
abbrev Zav:=@Addr.add_lit
abbrev Zaw:=@Nat.mul_pos
abbrev Zax:=@List.map_congr_left
abbrev Zay:=@List.mem_append
abbrev Zaz:=@Nat.mod_eq_of_lt
abbrev ZaA:=@Nat.div_eq_of_lt
abbrev ZaB:=@Int.mul_le_mul
abbrev ZaC:=@beq_iff_eq
abbrev ZaD:=@Nat.add_sub_cancel_left
abbrev ZaE:=@List.getLast?_eq_getElem?
abbrev ZaF:=@List.drop_eq_getElem_cons
abbrev ZaG:=@Nat.lt_of_le_of_lt
abbrev ZaH:=@Nat.eq_zero_or_pos
abbrev ZaI:=@World.frozen?_of_block
abbrev ZaJ:=@Nat.div_add_mod
abbrev ZaK:=@List.length_nil
abbrev ZaL:=@Nat.ne_of_lt
abbrev ZaM:=@Int.toNat_natCast
abbrev ZaN:=@Nat.le_mul_of_pos_right
abbrev ZaO:=@List.mem_cons_of_mem
abbrev ZaP:=@List.nil_append
abbrev ZaQ:=@Nat.pow_succ
abbrev ZaR:=@List.getElem_mem
abbrev ZaS:=@List.getElem?_range
abbrev ZaT:=@Nat.add_assoc
abbrev ZaU:=@List.getElem?_take_of_lt
abbrev ZaV:=@Nat.two_pow_pos
abbrev ZaW:=@List.map_append
abbrev ZaX:=@List.append_nil
abbrev ZaY:=@List.getElem?_of_mem
abbrev ZaZ:=@World.frozen?_alloc_new
abbrev Za0:=@Rat.zero_add
abbrev Za1:=@List.length_replicate
abbrev Za2:=@List.getElem?_eq_none
abbrev Za3:=@Bool.not_eq_true
abbrev Za4:=@List.eq_of_mem_replicate
abbrev Za5:=@heap_alloc_new
abbrev Za6:=@Nat.mul_add
abbrev Za7:=@List.mem_of_getLast?
abbrev Za8:=@Int.eq_ofNat_of_zero_le
abbrev Za9:=@Nat.div_le_self
abbrev Zba:=@Int.natCast_mul
abbrev Zbb:=@Nat.div_div_eq_div_mul
abbrev Zbc:=@Rat.mkRat_one
abbrev Zbd:=@List.mem_cons
abbrev Zbe:=@World.size_alloc
abbrev Zbf:=@List.mem_flatMap
abbrev Zbg:=@List.length_drop
abbrev Zbh:=@Bool.and_false
abbrev Zbi:=@Nat.mul_right_comm
abbrev Zbj:=@Array.mem_of_getElem?
abbrev Zbk:=@Array.getElem?_modify
abbrev Zbl:=@Array.getElem?_eq_getElem
abbrev Zbm:=@Rat.one_mul
abbrev Zbn:=@Rat.add_zero
abbrev Zbo:=@Nat.zero_mul
abbrev Zbp:=@Nat.mul_one
abbrev Zbq:=@Nat.le_of_eq
abbrev Zbr:=@Nat.lt_trichotomy
abbrev Zbs:=@toList_madeCells_one
abbrev Zbt:=@List.mem_append_left
abbrev Zbu:=@List.drop_length
abbrev Zbv:=@World.block_lt_of_cell?
abbrev Zbw:=@Nat.add_comm
abbrev Zbx:=@List.map_map
abbrev Zby:=@Below.heap_setCell
abbrev Zbz:=@Nat.le_add_left
abbrev ZbA:=@List.all_append
abbrev ZbB:=@List.map_cons

import Derived.Test.YtpibfnekkfhkmaaGreatChecked
import Derived.KernelRfl
import Derived.Test.YtpibfnekkfhkmaaGreatM5
open Nat renaming reduceBEq → zB, reduceEqDiff → zE, reduceAdd → zA, reduceSub → zS, reduceLT → zL, reduceLeDiff → zD, reduceMul → zM
open Go.Proofs.Tryz renaming prog → P0
open Go.Proofs.Tryz
open List renaming length_nil → zaa, append_nil → zac, length_cons → zae, length_append → zai, range_zero → zaj, length_map → zal, map_cons → zam, map_nil → zan, getD_cons_zero → zao, getD_cons_succ → zap, take_succ_cons → zaq, take_zero → zar, drop_succ_cons → zas, drop_zero → zat, cons_append → zau, nil_append → zav, all_cons → zaw, all_nil → zax, contains_cons → zbh, contains_nil → zbi, filter_cons → zbj, filter_nil → zbk, getElem?_cons_zero → zbm, getElem?_cons_succ → zbn, getElem?_nil → zbo, take_nil → zbp, drop_nil → zbq, range → zcl
open BitVec renaming ofInt → zab, ofNat → zcc, toNat_ofNat → zcx
open Option renaming getD_some → zad, map_some → zah, getD_none → zak, map_none → zbl
open Bool renaming true_and → zaf, and_true → zay, false_and → zaz, and_self → zba, or_true → zbb, true_or → zbc, false_or → zbd, or_false → zbe, not_true → zbf, not_false → zbg, false_eq_true → zbr
open Nat renaming reduceEqDiff → zbs, reduceAdd → zbt, reduceSub → zbu, reduceLT → zbv, reduceLeDiff → zbw, reduceMul → zbx, pow_pos → zca, mul_assoc → zcd, mul_le_mul → zce, pow_succ → zcj, pow_le_pow_right → zck, mul_comm → zco, add_mul_div_right → zcp, zero_add → zcq, min_eq_left → zcr, div_div_eq_div_mul → zcv, div_eq_of_lt → zcw, and_two_pow_sub_one_eq_mod → zcy
open Int renaming emod_lt_of_pos → zby, emod_nonneg → zbz, toNat_natCast → zcb, lt_or_le → zcf, mul_add → zcg, pow_succ → zch, tmod_eq_emod_of_nonneg → zci, natAbs_mul → zcm, mul_nonneg → zcn, fdiv_eq_ediv_of_nonneg → zcs, mul_ediv_add_emod → zct, mul_le_mul_of_nonneg_right → zcu
namespace Go.Ev
set_option maxRecDepth 100000
noncomputable section
open Go
set_option linter.unusedSectionVars false
set_option linter.unnecessarySimpa false
set_option linter.unusedSimpArgs false
set_option linter.unusedVariables false
def aq5:Mk P0 f176:={ x:=_ }
theorem asy:d5 176 2 aq5:=c8 func176
def aq1:Mk P0 f246:={ x:=_ }
theorem asu:d5 246 2 aq1:=c8 func246
def aq3:Mk P0 f231:={ x:=_ }
theorem asw:d5 231 1 aq3:=c8 func231
def anu:Mk P0 f247:={ x:=_ }
theorem aq0:d5 247 1 anu:=c8 func247
def aj0:Mk P0 f191:={ x:=_ }
theorem ani:d5 191 2 aj0:=c8 func191
def aq4:Mk P0 f233:={ x:=_ }
theorem asx:d5 233 2 aq4:=c8 func233
def akz:Mk P0 f135:={ x:=_ }
theorem ao3:d5 135 2 akz:=c8 func135
def sm (x:Int):AV:=.tup [int .i64 (if in64 x then x else 0),bl (decide (in64 x))]
theorem rc {x y:Int} (h:x=y) (hx:in64 y):AV.tup [int .i64 x,bl true]=sm y:=by simp [sm,hx,h]
theorem aik {y:Int} (hx:¬in64 y):AV.tup [int .i64 0,bl false]=sm y:=by simp [sm,hx]
theorem bih (n:Nat):(n:Int).fdiv (2^min (Int.toNat 32) IntKind.u64.bits)=((n/4294967296:Nat):Int):=by
 have:(2:Int)^min (Int.toNat 32) IntKind.u64.bits=4294967296:=by decide
 rw [this,zcs _ (by decide)];omega
theorem bhz (n:Nat):IntKind.u64.wrap (n:Int)=((n%18446744073709551616:Nat):Int):=by
 rw [IntKind.wrap_u64]; omega
theorem bji (n:Nat):(zab IntKind.u64.bits (n:Int) &&& zab IntKind.u64.bits 4294967295).toNat=n%4294967296:=by
 have h1:zab IntKind.u64.bits (n:Int)=zcc 64 n:=by simp [IntKind.bits]
 have h2:zab IntKind.u64.bits 4294967295=zcc 64 (2^32-1):=rfl;rw [h1,h2];show (zcc 64 n &&& zcc 64 (2^32-1)).toNat = _;rw [BitVec.toNat_and,zcx,zcx,show (2^32-1)%2^64=2^32-1 by decide,zcy];omega
theorem a49 {x y a b c d:Nat} (hx:x=a*4294967296+b) (hy:y=c*4294967296+d):x*y=(a*c)*18446744073709551616+(a*d+b*c)*4294967296+b*d:=by
 subst hx; subst hy;rw [Nat.add_mul,Nat.mul_add,Nat.mul_add]
 have e1:a*4294967296*(c*4294967296)=(a*c)*18446744073709551616:=by
  rw [Nat.mul_mul_mul_comm]
 have e2:a*4294967296*d=(a*d)*4294967296:=Nat.mul_right_comm _ _ _;have e3:b*(c*4294967296)=(b*c)*4294967296:=(zcd _ _ _).symm;rw [e1,e2,e3];omega
theorem af4 {a b:Nat} (ha:a<4294967296) (hb:b<4294967296):a*b≤18446744065119617025:=by
 have:a*b≤4294967295*4294967295:=zce (by omega) (by omega);omega
theorem a22 (a b:Int) (ha:in64 a) (hb:in64 b):a8 P0 176 [int .i64 a,int .i64 b] [] (sm (a+b)) []:=by
 refine asy rfl (by decide) ?_
 push_cast [aq5,zaa]
 unfold in64 at ha hb;refine c7 (fun h=>?_) (fun h=>?_)
 ·push_cast
  refine aik ?_;rw [IntKind.wrap_i64] at h;unfold in64; by_cases h1:(a+b+9223372036854775808)%18446744073709551616-9223372036854775808>a<;>by_cases h2:b>0<;>by_cases h3:b=0<;>simp only [h1,h2,h3,decide_true,decide_false] at h<;>first | omega | (simp at h; done) | (simp at h; omega)
 ·push_cast
  rw [IntKind.wrap_i64] at h ⊢
  have:in64 (a+b):=by
   unfold in64; by_cases h1:(a+b+9223372036854775808)%18446744073709551616-9223372036854775808>a<;>by_cases h2:b>0<;>by_cases h3:b=0<;>simp only [h1,h2,h3,decide_true,decide_false] at h<;>first | omega | (simp at h; done) | (simp at h; omega)
  exact rc (by unfold in64 at this; omega) this
theorem a01 (a b:Int) (ha:in64 a) (hb:in64 b):a8 P0 246 [int .i64 a,int .i64 b] [] (sm (a-b)) []:=by
 refine asu rfl (by decide) ?_
 push_cast [aq1,zaa]
 unfold in64 at ha hb;refine c7 (fun h=>?_) (fun h=>?_)
 ·push_cast
  refine aik ?_;rw [IntKind.wrap_i64] at h;unfold in64; by_cases h1:(a-b+9223372036854775808)%18446744073709551616-9223372036854775808<a<;>by_cases h2:b>0<;>by_cases h3:b=0<;>simp only [h1,h2,h3,decide_true,decide_false] at h<;>first | omega | (simp at h; done) | (simp at h; omega)
 ·push_cast
  rw [IntKind.wrap_i64] at h ⊢
  have:in64 (a-b):=by
   unfold in64; by_cases h1:(a-b+9223372036854775808)%18446744073709551616-9223372036854775808<a<;>by_cases h2:b>0<;>by_cases h3:b=0<;>simp only [h1,h2,h3,decide_true,decide_false] at h<;>first | omega | (simp at h; done) | (simp at h; omega)
  exact rc (by unfold in64 at this; omega) this
theorem bir (a:Int) (ha:in64 a):a8 P0 231 [int .i64 a] [] (sm (-a)) []:=by
 refine asw rfl (by decide) ?_
 push_cast [aq3,zaa]
 refine a5 (a01 0 a (by decide) ha) rfl trivial ?_
 push_cast [sm]
 simp
theorem a3s (a:Int) (ha:in64 a):a8 P0 247 [int .i64 a] [] (int .u64 a.natAbs) []:=by
 refine aq0 rfl (by decide) ?_
 push_cast [anu,zaa]
 unfold in64 at ha;refine c7 (fun h=>?_) (fun h=>?_)
 ·push_cast
  simp at h;rw [IntKind.wrap_u64,IntKind.wrap_u64];congr 3;omega
 ·push_cast
  simp at h;rw [IntKind.wrap_u64];congr 3;omega
theorem as0 (x y:Nat) (hx:x<18446744073709551616) (hy:y<18446744073709551616):a8 P0 191 [int .u64 x,int .u64 y] [] (.tup [int .u64 (x*y/18446744073709551616:Nat),int .u64 (x*y%18446744073709551616:Nat)]) []:=by
 refine ani rfl (by decide) ?_;simp only [aj0,push_cast,↓reduceIte,reduceCtorEq,zB,zE,zA,zS,zL,zD,zM];refine ⟨by decide,by decide,by decide,by decide,by decide,?_⟩;simp only [bih,bji,bhz,← Int.natCast_mul,← Int.natCast_add];have hm:∀n:Nat,n%4294967296%18446744073709551616=n%4294967296:=fun n=>by omega
 simp only [hm];have key:=a49 (x:=x) (y:=y) (a:=x/4294967296) (b:=x%4294967296) (c:=y/4294967296) (d:=y%4294967296) (by omega) (by omega);have b1:=af4 (a:=x/4294967296) (b:=y/4294967296) (by omega) (by omega);have b2:=af4 (a:=x/4294967296) (b:=y%4294967296) (by omega) (by omega);have b3:=af4 (a:=x%4294967296) (b:=y/4294967296) (by omega) (by omega);have b4:=af4 (a:=x%4294967296) (b:=y%4294967296) (by omega) (by omega);generalize x/4294967296*(y/4294967296)=p at *;generalize x/4294967296*(y%4294967296)=q at *;generalize x%4294967296*(y/4294967296)=r at *;generalize x%4294967296*(y%4294967296)=t at *;rw [key];congr 5;omega

theorem bit (a b:Int) (ha:in64 a) (hb:in64 b):a8 P0 233 [int .i64 a,int .i64 b] [] (sm (a*b)) []:=by
 refine asx rfl (by decide) ?_;have ha':=ha;have hb':=hb;unfold in64 at ha' hb'
 simp only [aq4,zaa,ua,su,tj,gh,gz,eu,ti,oe,kh,jt,oy,cq,tu,nu,tp,tt,nz,jy,th,to,tl,gi,nn,el,uu,ig,kr,oz,ic,aas,ny,ox,kq,jx,nw,tq,ub,zb,ss,sx,gf,adp,yx,uv,pd,uf,ue,od,zm,tx,oa,jz,om,ul,oq,ov,et,di,ko,oo,er,um,kp,gw,aag,bv,ou,aah,ot,ut,dw,zaj,zd,yw,kb,kg,aed,aee,ad4,ad3,lh,kj,zq,agr,tm,uj,gt,gr,dz,t7,de,vj,zx,qr,aa8,xq,vo,xp,ac9,vq,xa,qo,qp,ac1,xe,abj,abr,toV,aa6,aa7,ml,oh,ll,yes,aep,bad,t6,na,mmL,oi,ac8,eq2,eql,AV.isA,PO.see,PO.act,Vs.q,Rs.and,AV.bare,AV.may,abv,afe,afd,abx,ud,un1,up,xl,ia2,iab,leb,abk,ldb,ldr,ld1,zr,aae,fa1,abn,bnd,aba,vg,abp,src,jq,ep,l8,bw,PO.see.mayO,PO.see.bareO,i9,o7,jc,nv,AV.rv,rvs,AV.elt,frz,freeze,o3,ba,stb,str,st2,vp,par,xu,abt,xd,ac0,be,ir,aey,RV.cells,AV.cells,AV.one,RV.one,AV.boxable,RV.good,d7,u9,qh,vl,ac4,aew,aev,qm,qk,rr,AV.isNil,uc,pb,bz,n6,jb,x9,m5,ags,n9,fwd,ae2,za,u3,j8,ij,jf,back,cw,imV,imL,imO,idx,bk,obs,keep,cb,aaa,mu,xh,ug,ry,ab3,Ob.own,Value.oneCell',pa,lc,↓reduceIte,true_and,and_true,and_self,true_implies,imp_self,implies_true,zad,zak,zae,zaa,zal,zam,zan,zao,zap,zaq,zar,zas,zat,zau,zav,zac,zaw,zax,zay,zaf,zaz,zba,zbb,zbc,zbd,zbe,zbf,zbg,reduceCtorEq,zbh,zbi,zbj,zbk,decide_true,decide_false,if_true,if_false,false_and,and_false,not_true,not_false_eq_true,zah,zbl,zbm,zbn,zbo,zai,beq_self_eq_true,zB,zbp,zbq,false_implies,zbr,ne_eq,zbs,zbt,zbu,zbv,zbw,zbx,zh,zg,zl,zk,zj,zo]
 refine a5 (a3s a ha) rfl trivial ?_
 simp only [ua,su,tj,gh,gz,eu,ti,oe,kh,jt,oy,cq,tu,nu,tp,tt,nz,jy,th,to,tl,gi,nn,el,uu,ig,kr,oz,ic,aas,ny,ox,kq,jx,nw,tq,ub,zb,ss,sx,gf,adp,yx,uv,pd,uf,ue,od,zm,tx,oa,jz,om,ul,oq,ov,et,di,ko,oo,er,um,kp,gw,aag,bv,ou,aah,ot,ut,dw,zaj,zd,yw,kb,kg,aed,aee,ad4,ad3,lh,kj,zq,agr,tm,uj,gt,gr,dz,t7,de,vj,zx,qr,aa8,xq,vo,xp,ac9,vq,xa,qo,qp,ac1,xe,abj,abr,toV,aa6,aa7,ml,oh,ll,yes,aep,bad,t6,na,mmL,oi,ac8,eq2,eql,AV.isA,PO.see,PO.act,Vs.q,Rs.and,AV.bare,AV.may,abv,afe,afd,abx,ud,un1,up,xl,ia2,iab,leb,abk,ldb,ldr,ld1,zr,aae,fa1,abn,bnd,aba,vg,abp,src,jq,ep,l8,bw,PO.see.mayO,PO.see.bareO,i9,o7,jc,nv,AV.rv,rvs,AV.elt,frz,freeze,o3,ba,stb,str,st2,vp,par,xu,abt,xd,ac0,be,ir,aey,RV.cells,AV.cells,AV.one,RV.one,AV.boxable,RV.good,d7,u9,qh,vl,ac4,aew,aev,qm,qk,rr,AV.isNil,uc,pb,bz,n6,jb,x9,m5,ags,n9,fwd,ae2,za,u3,j8,ij,jf,back,cw,imV,imL,imO,idx,bk,obs,keep,cb,aaa,mu,xh,ug,ry,ab3,Ob.own,Value.oneCell',pa,lc,↓reduceIte,true_and,and_true,and_self,true_implies,imp_self,implies_true,zad,zak,zae,zaa,zal,zam,zan,zao,zap,zaq,zar,zas,zat,zau,zav,zac,zaw,zax,zay,zaf,zaz,zba,zbb,zbc,zbd,zbe,zbf,zbg,reduceCtorEq,zbh,zbi,zbj,zbk,decide_true,decide_false,if_true,if_false,false_and,and_false,not_true,not_false_eq_true,zah,zbl,zbm,zbn,zbo,zai,beq_self_eq_true,zB,zbp,zbq,false_implies,zbr,ne_eq,zbs,zbt,zbu,zbv,zbw,zbx,zh,zg,zl,zk,zj,zo]
 refine a5 (a3s b hb) rfl trivial ?_
 simp only [ua,su,tj,gh,gz,eu,ti,oe,kh,jt,oy,cq,tu,nu,tp,tt,nz,jy,th,to,tl,gi,nn,el,uu,ig,kr,oz,ic,aas,ny,ox,kq,jx,nw,tq,ub,zb,ss,sx,gf,adp,yx,uv,pd,uf,ue,od,zm,tx,oa,jz,om,ul,oq,ov,et,di,ko,oo,er,um,kp,gw,aag,bv,ou,aah,ot,ut,dw,zaj,zd,yw,kb,kg,aed,aee,ad4,ad3,lh,kj,zq,agr,tm,uj,gt,gr,dz,t7,de,vj,zx,qr,aa8,xq,vo,xp,ac9,vq,xa,qo,qp,ac1,xe,abj,abr,toV,aa6,aa7,ml,oh,ll,yes,aep,bad,t6,na,mmL,oi,ac8,eq2,eql,AV.isA,PO.see,PO.act,Vs.q,Rs.and,AV.bare,AV.may,abv,afe,afd,abx,ud,un1,up,xl,ia2,iab,leb,abk,ldb,ldr,ld1,zr,aae,fa1,abn,bnd,aba,vg,abp,src,jq,ep,l8,bw,PO.see.mayO,PO.see.bareO,i9,o7,jc,nv,AV.rv,rvs,AV.elt,frz,freeze,o3,ba,stb,str,st2,vp,par,xu,abt,xd,ac0,be,ir,aey,RV.cells,AV.cells,AV.one,RV.one,AV.boxable,RV.good,d7,u9,qh,vl,ac4,aew,aev,qm,qk,rr,AV.isNil,uc,pb,bz,n6,jb,x9,m5,ags,n9,fwd,ae2,za,u3,j8,ij,jf,back,cw,imV,imL,imO,idx,bk,obs,keep,cb,aaa,mu,xh,ug,ry,ab3,Ob.own,Value.oneCell',pa,lc,↓reduceIte,true_and,and_true,and_self,true_implies,imp_self,implies_true,zad,zak,zae,zaa,zal,zam,zan,zao,zap,zaq,zar,zas,zat,zau,zav,zac,zaw,zax,zay,zaf,zaz,zba,zbb,zbc,zbd,zbe,zbf,zbg,reduceCtorEq,zbh,zbi,zbj,zbk,decide_true,decide_false,if_true,if_false,false_and,and_false,not_true,not_false_eq_true,zah,zbl,zbm,zbn,zbo,zai,beq_self_eq_true,zB,zbp,zbq,false_implies,zbr,ne_eq,zbs,zbt,zbu,zbv,zbw,zbx,zh,zg,zl,zk,zj,zo]
 refine a5 (as0 a.natAbs b.natAbs (by omega) (by omega)) rfl trivial ?_
 simp only [ua,su,tj,gh,gz,eu,ti,oe,kh,jt,oy,cq,tu,nu,tp,tt,nz,jy,th,to,tl,gi,nn,el,uu,ig,kr,oz,ic,aas,ny,ox,kq,jx,nw,tq,ub,zb,ss,sx,gf,adp,yx,uv,pd,uf,ue,od,zm,tx,oa,jz,om,ul,oq,ov,et,di,ko,oo,er,um,kp,gw,aag,bv,ou,aah,ot,ut,dw,zaj,zd,yw,kb,kg,aed,aee,ad4,ad3,lh,kj,zq,agr,tm,uj,gt,gr,dz,t7,de,vj,zx,qr,aa8,xq,vo,xp,ac9,vq,xa,qo,qp,ac1,xe,abj,abr,toV,aa6,aa7,ml,oh,ll,yes,aep,bad,t6,na,mmL,oi,ac8,eq2,eql,AV.isA,PO.see,PO.act,Vs.q,Rs.and,AV.bare,AV.may,abv,afe,afd,abx,ud,un1,up,xl,ia2,iab,leb,abk,ldb,ldr,ld1,zr,aae,fa1,abn,bnd,aba,vg,abp,src,jq,ep,l8,bw,PO.see.mayO,PO.see.bareO,i9,o7,jc,nv,AV.rv,rvs,AV.elt,frz,freeze,o3,ba,stb,str,st2,vp,par,xu,abt,xd,ac0,be,ir,aey,RV.cells,AV.cells,AV.one,RV.one,AV.boxable,RV.good,d7,u9,qh,vl,ac4,aew,aev,qm,qk,rr,AV.isNil,uc,pb,bz,n6,jb,x9,m5,ags,n9,fwd,ae2,za,u3,j8,ij,jf,back,cw,imV,imL,imO,idx,bk,obs,keep,cb,aaa,mu,xh,ug,ry,ab3,Ob.own,Value.oneCell',pa,lc,↓reduceIte,true_and,and_true,and_self,true_implies,imp_self,implies_true,zad,zak,zae,zaa,zal,zam,zan,zao,zap,zaq,zar,zas,zat,zau,zav,zac,zaw,zax,zay,zaf,zaz,zba,zbb,zbc,zbd,zbe,zbf,zbg,reduceCtorEq,zbh,zbi,zbj,zbk,decide_true,decide_false,if_true,if_false,false_and,and_false,not_true,not_false_eq_true,zah,zbl,zbm,zbn,zbo,zai,beq_self_eq_true,zB,zbp,zbq,false_implies,zbr,ne_eq,zbs,zbt,zbu,zbv,zbw,zbx,zh,zg,zl,zk,zj,zo]
 have hab:a.natAbs*b.natAbs=(a*b).natAbs:=(zcm a b).symm;rw [hab];have hle:(a*b).natAbs≤9223372036854775808*9223372036854775808:=by rw [← hab]; exact zce (by omega) (by omega)
 have hs:(a<0∧b<0→0<a*b)∧(a<0∧0≤b→a*b≤0)∧(0≤a∧b<0→a*b≤0)∧(0≤a∧0≤b→0≤a*b):=
  ⟨fun h=>Int.mul_pos_of_neg_of_neg h.1 h.2,fun h=>Int.mul_nonpos_of_nonpos_of_nonneg (by omega) h.2,fun h=>Int.mul_nonpos_of_nonneg_of_nonpos h.1 (by omega),fun h=>zcn h.1 h.2⟩
 clear hab;generalize a*b=m at *
 repeat refine And.intro (by simp +contextual) ?_
 refine c7 (fun h=>?_) (fun h=>?_)
 ·simp only [ua,su,tj,gh,gz,eu,ti,oe,kh,jt,oy,cq,tu,nu,tp,tt,nz,jy,th,to,tl,gi,nn,el,uu,ig,kr,oz,ic,aas,ny,ox,kq,jx,nw,tq,ub,zb,ss,sx,gf,adp,yx,uv,pd,uf,ue,od,zm,tx,oa,jz,om,ul,oq,ov,et,di,ko,oo,er,um,kp,gw,aag,bv,ou,aah,ot,ut,dw,zaj,zd,yw,kb,kg,aed,aee,ad4,ad3,lh,kj,zq,agr,tm,uj,gt,gr,dz,t7,de,vj,zx,qr,aa8,xq,vo,xp,ac9,vq,xa,qo,qp,ac1,xe,abj,abr,toV,aa6,aa7,ml,oh,ll,yes,aep,bad,t6,na,mmL,oi,ac8,eq2,eql,AV.isA,PO.see,PO.act,Vs.q,Rs.and,AV.bare,AV.may,abv,afe,afd,abx,ud,un1,up,xl,ia2,iab,leb,abk,ldb,ldr,ld1,zr,aae,fa1,abn,bnd,aba,vg,abp,src,jq,ep,l8,bw,PO.see.mayO,PO.see.bareO,i9,o7,jc,nv,AV.rv,rvs,AV.elt,frz,freeze,o3,ba,stb,str,st2,vp,par,xu,abt,xd,ac0,be,ir,aey,RV.cells,AV.cells,AV.one,RV.one,AV.boxable,RV.good,d7,u9,qh,vl,ac4,aew,aev,qm,qk,rr,AV.isNil,uc,pb,bz,n6,jb,x9,m5,ags,n9,fwd,ae2,za,u3,j8,ij,jf,back,cw,imV,imL,imO,idx,bk,obs,keep,cb,aaa,mu,xh,ug,ry,ab3,Ob.own,Value.oneCell',pa,lc,↓reduceIte,true_and,and_true,and_self,true_implies,imp_self,implies_true,zad,zak,zae,zaa,zal,zam,zan,zao,zap,zaq,zar,zas,zat,zau,zav,zac,zaw,zax,zay,zaf,zaz,zba,zbb,zbc,zbd,zbe,zbf,zbg,reduceCtorEq,zbh,zbi,zbj,zbk,decide_true,decide_false,if_true,if_false,false_and,and_false,not_true,not_false_eq_true,zah,zbl,zbm,zbn,zbo,zai,beq_self_eq_true,zB,zbp,zbq,false_implies,zbr,ne_eq,zbs,zbt,zbu,zbv,zbw,zbx,zh,zg,zl,zk,zj,zo]
  refine aik ?_;unfold in64;by_cases h1:m.natAbs/18446744073709551616=0<;>by_cases h2:m.natAbs%18446744073709551616=9223372036854775808<;>by_cases h3:a<0<;>by_cases h4:b<0<;>simp [h1,h2,h3,h4] at h<;>omega
 ·have hm:m.natAbs≤9223372036854775808∧(m.natAbs=9223372036854775808→(a<0∧0≤b)∨(0≤a∧b<0)):=by
   by_cases h1:m.natAbs/18446744073709551616=0<;>by_cases h2:m.natAbs%18446744073709551616=9223372036854775808<;>by_cases h3:a<0<;>by_cases h4:b<0<;>simp [h1,h2,h3,h4] at h<;>omega
  clear h
  simp only [ua,su,tj,gh,gz,eu,ti,oe,kh,jt,oy,cq,tu,nu,tp,tt,nz,jy,th,to,tl,gi,nn,el,uu,ig,kr,oz,ic,aas,ny,ox,kq,jx,nw,tq,ub,zb,ss,sx,gf,adp,yx,uv,pd,uf,ue,od,zm,tx,oa,jz,om,ul,oq,ov,et,di,ko,oo,er,um,kp,gw,aag,bv,ou,aah,ot,ut,dw,zaj,zd,yw,kb,kg,aed,aee,ad4,ad3,lh,kj,zq,agr,tm,uj,gt,gr,dz,t7,de,vj,zx,qr,aa8,xq,vo,xp,ac9,vq,xa,qo,qp,ac1,xe,abj,abr,toV,aa6,aa7,ml,oh,ll,yes,aep,bad,t6,na,mmL,oi,ac8,eq2,eql,AV.isA,PO.see,PO.act,Vs.q,Rs.and,AV.bare,AV.may,abv,afe,afd,abx,ud,un1,up,xl,ia2,iab,leb,abk,ldb,ldr,ld1,zr,aae,fa1,abn,bnd,aba,vg,abp,src,jq,ep,l8,bw,PO.see.mayO,PO.see.bareO,i9,o7,jc,nv,AV.rv,rvs,AV.elt,frz,freeze,o3,ba,stb,str,st2,vp,par,xu,abt,xd,ac0,be,ir,aey,RV.cells,AV.cells,AV.one,RV.one,AV.boxable,RV.good,d7,u9,qh,vl,ac4,aew,aev,qm,qk,rr,AV.isNil,uc,pb,bz,n6,jb,x9,m5,ags,n9,fwd,ae2,za,u3,j8,ij,jf,back,cw,imV,imL,imO,idx,bk,obs,keep,cb,aaa,mu,xh,ug,ry,ab3,Ob.own,Value.oneCell',pa,lc,↓reduceIte,true_and,and_true,and_self,true_implies,imp_self,implies_true,zad,zak,zae,zaa,zal,zam,zan,zao,zap,zaq,zar,zas,zat,zau,zav,zac,zaw,zax,zay,zaf,zaz,zba,zbb,zbc,zbd,zbe,zbf,zbg,reduceCtorEq,zbh,zbi,zbj,zbk,decide_true,decide_false,if_true,if_false,false_and,and_false,not_true,not_false_eq_true,zah,zbl,zbm,zbn,zbo,zai,beq_self_eq_true,zB,zbp,zbq,false_implies,zbr,ne_eq,zbs,zbt,zbu,zbv,zbw,zbx,zh,zg,zl,zk,zj,zo]
  refine c7 (fun h'=>?_) (fun h'=>?_)
  ·simp only [ua,su,tj,gh,gz,eu,ti,oe,kh,jt,oy,cq,tu,nu,tp,tt,nz,jy,th,to,tl,gi,nn,el,uu,ig,kr,oz,ic,aas,ny,ox,kq,jx,nw,tq,ub,zb,ss,sx,gf,adp,yx,uv,pd,uf,ue,od,zm,tx,oa,jz,om,ul,oq,ov,et,di,ko,oo,er,um,kp,gw,aag,bv,ou,aah,ot,ut,dw,zaj,zd,yw,kb,kg,aed,aee,ad4,ad3,lh,kj,zq,agr,tm,uj,gt,gr,dz,t7,de,vj,zx,qr,aa8,xq,vo,xp,ac9,vq,xa,qo,qp,ac1,xe,abj,abr,toV,aa6,aa7,ml,oh,ll,yes,aep,bad,t6,na,mmL,oi,ac8,eq2,eql,AV.isA,PO.see,PO.act,Vs.q,Rs.and,AV.bare,AV.may,abv,afe,afd,abx,ud,un1,up,xl,ia2,iab,leb,abk,ldb,ldr,ld1,zr,aae,fa1,abn,bnd,aba,vg,abp,src,jq,ep,l8,bw,PO.see.mayO,PO.see.bareO,i9,o7,jc,nv,AV.rv,rvs,AV.elt,frz,freeze,o3,ba,stb,str,st2,vp,par,xu,abt,xd,ac0,be,ir,aey,RV.cells,AV.cells,AV.one,RV.one,AV.boxable,RV.good,d7,u9,qh,vl,ac4,aew,aev,qm,qk,rr,AV.isNil,uc,pb,bz,n6,jb,x9,m5,ags,n9,fwd,ae2,za,u3,j8,ij,jf,back,cw,imV,imL,imO,idx,bk,obs,keep,cb,aaa,mu,xh,ug,ry,ab3,Ob.own,Value.oneCell',pa,lc,↓reduceIte,true_and,and_true,and_self,true_implies,imp_self,implies_true,zad,zak,zae,zaa,zal,zam,zan,zao,zap,zaq,zar,zas,zat,zau,zav,zac,zaw,zax,zay,zaf,zaz,zba,zbb,zbc,zbd,zbe,zbf,zbg,reduceCtorEq,zbh,zbi,zbj,zbk,decide_true,decide_false,if_true,if_false,false_and,and_false,not_true,not_false_eq_true,zah,zbl,zbm,zbn,zbo,zai,beq_self_eq_true,zB,zbp,zbq,false_implies,zbr,ne_eq,zbs,zbt,zbu,zbv,zbw,zbx,zh,zg,zl,zk,zj,zo]
   have hn:m≤0:=by by_cases h3:a<0<;>by_cases h4:b<0<;>simp [h3,h4] at h'<;>omega
   refine rc ?_ ?_
   ·rw [IntKind.wrap_i64,IntKind.wrap_i64];omega
   ·unfold in64; omega
  ·simp only [ua,su,tj,gh,gz,eu,ti,oe,kh,jt,oy,cq,tu,nu,tp,tt,nz,jy,th,to,tl,gi,nn,el,uu,ig,kr,oz,ic,aas,ny,ox,kq,jx,nw,tq,ub,zb,ss,sx,gf,adp,yx,uv,pd,uf,ue,od,zm,tx,oa,jz,om,ul,oq,ov,et,di,ko,oo,er,um,kp,gw,aag,bv,ou,aah,ot,ut,dw,zaj,zd,yw,kb,kg,aed,aee,ad4,ad3,lh,kj,zq,agr,tm,uj,gt,gr,dz,t7,de,vj,zx,qr,aa8,xq,vo,xp,ac9,vq,xa,qo,qp,ac1,xe,abj,abr,toV,aa6,aa7,ml,oh,ll,yes,aep,bad,t6,na,mmL,oi,ac8,eq2,eql,AV.isA,PO.see,PO.act,Vs.q,Rs.and,AV.bare,AV.may,abv,afe,afd,abx,ud,un1,up,xl,ia2,iab,leb,abk,ldb,ldr,ld1,zr,aae,fa1,abn,bnd,aba,vg,abp,src,jq,ep,l8,bw,PO.see.mayO,PO.see.bareO,i9,o7,jc,nv,AV.rv,rvs,AV.elt,frz,freeze,o3,ba,stb,str,st2,vp,par,xu,abt,xd,ac0,be,ir,aey,RV.cells,AV.cells,AV.one,RV.one,AV.boxable,RV.good,d7,u9,qh,vl,ac4,aew,aev,qm,qk,rr,AV.isNil,uc,pb,bz,n6,jb,x9,m5,ags,n9,fwd,ae2,za,u3,j8,ij,jf,back,cw,imV,imL,imO,idx,bk,obs,keep,cb,aaa,mu,xh,ug,ry,ab3,Ob.own,Value.oneCell',pa,lc,↓reduceIte,true_and,and_true,and_self,true_implies,imp_self,implies_true,zad,zak,zae,zaa,zal,zam,zan,zao,zap,zaq,zar,zas,zat,zau,zav,zac,zaw,zax,zay,zaf,zaz,zba,zbb,zbc,zbd,zbe,zbf,zbg,reduceCtorEq,zbh,zbi,zbj,zbk,decide_true,decide_false,if_true,if_false,false_and,and_false,not_true,not_false_eq_true,zah,zbl,zbm,zbn,zbo,zai,beq_self_eq_true,zB,zbp,zbq,false_implies,zbr,ne_eq,zbs,zbt,zbu,zbv,zbw,zbx,zh,zg,zl,zk,zj,zo]
   have hn:0≤m∧m.natAbs≠9223372036854775808:=by by_cases h3:a<0<;>by_cases h4:b<0<;>simp [h3,h4] at h'<;>omega
   refine rc ?_ ?_
   ·rw [IntKind.wrap_i64];omega
   ·unfold in64; omega
theorem bet {a b c a' b' c':AV} (h1:a=a') (h2:b=b') (h3:c=c'):AV.tup [a,b,c]=AV.tup [a',b',c']:=by rw [h1,h2,h3]
theorem ari {k:IntKind} {a b:Int} (h:a=b):int k a=int k b:=by rw [h]
theorem bax {a b:Bool} (h:a=b):bl a=bl b:=by rw [h]
theorem ayh {a b:Int} (ha:in64 a) (hb:0<b):(-9223372036854775808≤a/b∧a/b≤9223372036854775807)∧(a.tmod b<0→a.tdiv b-1=a/b∧a.tmod b+b=a%b)∧(0≤a.tmod b→a.tdiv b=a/b∧a.tmod b=a%b):=by
 unfold in64 at ha;have h1:=Int.mul_tdiv_add_tmod a b;have h2:a.tmod b<b:=Int.tmod_lt_of_pos a hb
 have h3:-b<a.tmod b:=by
  have:=Int.lt_tmod_of_pos a hb;omega
 refine ⟨?_,fun h=>?_,fun h=>?_⟩
 ·have h4:=zct a b;have h5:=zby a hb;have h6:=zbz a (show b≠0 by omega);generalize a/b=q at *;generalize a%b=r at *;constructor
  ·rcases zcf q 0 with hq | hq
   ·have:b*(q+1)≤1*(q+1):=Int.mul_le_mul_of_nonpos_right (by omega) (by omega);rw [zcg] at this;omega
   ·omega
  ·rcases zcf q 0 with hq | hq
   ·omega
   ·have:1*q≤b*q:=zcu (by omega) hq;omega
 ·have:=(Int.ediv_emod_unique (a:=a) (b:=b) (r:=a.tmod b+b) (q:=a.tdiv b-1) hb).2 ⟨by rw [Int.mul_sub]; omega,by omega,by omega⟩;exact ⟨this.1.symm,this.2.symm⟩
 ·have:=(Int.ediv_emod_unique (a:=a) (b:=b) (r:=a.tmod b) (q:=a.tdiv b) hb).2 ⟨by omega,by omega,by omega⟩;exact ⟨this.1.symm,this.2.symm⟩
theorem qd (a b:Int) (ha:in64 a) (hb:in64 b):a8 P0 135 [int .i64 a,int .i64 b] [] (.tup [int .i64 (if 0<b then a/b else 0),int .i64 (if 0<b then a%b else 0),bl (decide (0<b))]) []:=by
 refine ao3 rfl (by decide) ?_
 push_cast [akz,zaa]
 refine c7 (fun h=>?_) (fun h=>?_)
 ·push_cast
  simp at h;have:¬0<b:=by omega
  simp [this]
 ·push_cast
  simp at h;refine ⟨by omega,by omega,by kernel_rfl,?_⟩;obtain ⟨q1,q2,q3⟩:=ayh ha h;have hw:IntKind.i64.wrap (a.tdiv b)=a.tdiv b:=wrap_i64_tdiv a b ha.1 ha.2 (by omega);rw [hw];refine c7 (fun h'=>?_) (fun h'=>?_)
  ·push_cast
   simp at h';obtain ⟨e1,e2⟩:=q2 h';refine bet (ari ?_) (ari ?_) (bax ?_)
   ·rw [if_pos h,← e1,a7];unfold in64 at ha; rw [e1]; omega
   ·rw [if_pos h,← e2,a7];have h5:=zby a h;have h6:=zbz a (show b≠0 by omega);rw [e2];unfold in64 at hb; omega
   ·simp [h]
  ·push_cast
   simp at h';obtain ⟨e1,e2⟩:=q3 h';refine bet (ari ?_) (ari ?_) (bax ?_)
   ·rw [if_pos h,e1]
   ·rw [if_pos h,e2]
   ·simp [h]

def agj:Mk P0 f229:={ x:=_ }
theorem aj3:d5 229 1 agj:=c8 func229
def vc:PC:=
  (.seq (.reg [p_a 2 (.box (.t 0)),p_a 3 (.box (.t 1)),p_a 4 (.new [(.r (.v (.int .u64 0))),(.r (.v (.int .u64 0)))])])
 (.seq (.reg [p_s 10 (.fa 1 (.t 2)),p_s 11 (.ld none (.t 10)),p_s 12 (.fa 1 (.t 3)),p_s 13 (.ld none (.t 12)),p_s 14 (.carry false (.t 11) (.t 13) (.c (.r (.v (.int .u64 0))))),
 p_m 9 14,p_s 15 (.ext (.t 9) 0),p_s 16 (.ext (.t 9) 1),p_m 5 15,p_m 6 16])
 (.seq (.reg [p_s 18 (.fa 0 (.t 2)),p_s 19 (.ld none (.t 18)),p_s 20 (.fa 0 (.t 3)),p_s 21 (.ld none (.t 20)),p_m 22 6,p_s 23 (.carry false (.t 19) (.t 21) (.t 22)),p_m 17 23,
 p_s 24 (.ext (.t 17) 0),p_s 25 (.ext (.t 17) 1),p_m 7 24,p_m 8 25])
 (.seq (.reg [p_m 26 7,p_m 27 5,p_s 28 (.build [(.r (.v (.int .u64 0))),(.r (.v (.int .u64 0)))] [(0,1,(.t 26)),(1,1,(.t 27))]),⟨none,none,0,.act (.st 2 (.t 4) (.t 28))⟩])
 .ret))))
theorem acw:Fun P0 153 2 [(4,false,some (221,(some 2)))] vc:=ae3 func153 rfl (by decide) (by kernel_rfl) (by decide) rfl (by kernel_rfl) (by kernel_rfl) (by decide)
def qv:Mk P0 f154:={ x:=_ }
theorem aat:d5 154 1 qv:=c8 func154
def aa2:Mk P0 f151:={ x:=_ }
theorem afo:d5 151 2 aa2:=c8 func151
def sf:Mk P0 f186:={ x:=_ }
theorem abz:d5 186 1 sf:=c8 func186
def jg (x:Int):AV:=.r (.agg [.v (.int .u64 (x/18446744073709551616%18446744073709551616)),.v (.int .u64 (x%18446744073709551616))])
theorem pt {x a b:Int} (h1:a=x/18446744073709551616%18446744073709551616) (h2:b=x%18446744073709551616):AV.r (.agg [.v (.int .u64 a),.v (.int .u64 b)])=jg x:=by rw [h1,h2]; rfl
theorem big (a:Int) (ha:in64 a):a.fdiv (2^min (Int.toNat 63) IntKind.i64.bits)=if a<0 then -1 else 0:=by
 have:(2:Int)^min (Int.toNat 63) IntKind.i64.bits=9223372036854775808:=by decide
 rw [this,zcs _ (by decide)];unfold in64 at ha;split<;>omega
theorem w_t (a:Int) (ha:in64 a):a8 P0 229 [int .i64 a] [] (jg a) []:=by
 refine aj3 rfl (by decide) ?_;simp only [agj,push_cast,↓reduceIte,reduceCtorEq,zB,zE,zA,zS,zL,zD,zM];refine ⟨by decide,pt ?_ ?_⟩
 ·rw [big a ha,IntKind.wrap_u64];unfold in64 at ha;split<;>omega
 ·rw [IntKind.wrap_u64]
theorem ban {x:Int} (h0:0≤x) (h1:x<18446744073709551616):IntKind.u64.wrap ((zab IntKind.u64.bits (if IntKind.u64.signed=true then -1 else IntKind.u64.max) ^^^ zab IntKind.u64.bits x).toNat)=18446744073709551615-x:=by
 obtain ⟨n,rfl⟩:=Int.eq_ofNat_of_zero_le h0;have e1:zab IntKind.u64.bits (if IntKind.u64.signed=true then -1 else IntKind.u64.max)=BitVec.allOnes 64:=by rfl
 have e2:zab IntKind.u64.bits (n:Int)=zcc 64 n:=by simp [IntKind.bits]
 rw [e1,e2];show IntKind.u64.wrap ((BitVec.allOnes 64 ^^^ zcc 64 n).toNat:Int) = _;rw [BitVec.allOnes_xor,BitVec.toNat_not,zcx,IntKind.wrap_u64];omega
theorem bfk (a b:Int):a8 P0 153 [jg a,jg b] [] (jg (a+b)) []:=by
 refine acw rfl (by decide) ?_
 push_cast [vc,jg,zaa]
 refine ⟨by omega,by omega,pt (by omega) (by omega)⟩
theorem bbn (a:Int) (h:-170141183460469231731687303715884105728≤a∧a<170141183460469231731687303715884105728):a8 P0 186 [jg a] [] (sm a) []:=by
 refine abz rfl (by decide) ?_
 push_cast [sf,jg,zaa]
 rw [IntKind.wrap_i64];refine d9 (w_t _ (by unfold in64; omega)) rfl trivial ?_
 push_cast [jg]
 refine ⟨by kernel_rfl,?_⟩;refine c7 (fun h=>?_) (fun h=>?_)
 ·push_cast
  refine aik ?_;unfold in64;simp at h;omega
 ·push_cast
  simp at h;refine rc ?_ ?_
  ·omega
  ·unfold in64; omega
theorem avl (a:Int):a8 P0 154 [jg a] [] (jg (-a)) []:=by
 refine aat rfl (by decide) ?_
 push_cast [qv,jg,zaa]
 rw [ban (by omega) (by omega),ban (by omega) (by omega)];refine b9 (as':=[jg (-1-a),jg 1]) ?_ ?_
 ·congr 1
  ·exact pt (by omega) (by omega)
 ·refine a5 (bfk (-1-a) 1) rfl trivial ?_
  push_cast [jg]
  exact pt (by omega) (by omega)
theorem ave (a:Int) (ha:in64 a):(a<0→IntKind.u64.wrap (0-IntKind.u64.wrap a)=a.natAbs)∧(¬a<0→IntKind.u64.wrap a=a.natAbs):=by
 unfold in64 at ha;rw [IntKind.wrap_u64,IntKind.wrap_u64];omega
theorem bbf (a b:Int) (ha:in64 a) (hb:in64 b):a8 P0 151 [int .i64 a,int .i64 b] [] (jg (a*b)) []:=by
 refine afo rfl (by decide) ?_;have ha':=ha;have hb':=hb;unfold in64 at ha' hb';obtain ⟨wa1,wa2⟩:=ave a ha;obtain ⟨wb1,wb2⟩:=ave b hb;have hab:a.natAbs*b.natAbs=(a*b).natAbs:=(zcm a b).symm;have hle:(a*b).natAbs≤9223372036854775808*9223372036854775808:=by rw [← hab]; exact zce (by omega) (by omega)
 have hs:(a<0∧b<0→0<a*b)∧(a<0∧0≤b→a*b≤0)∧(0≤a∧b<0→a*b≤0)∧(0≤a∧0≤b→0≤a*b):=
  ⟨fun h=>Int.mul_pos_of_neg_of_neg h.1 h.2,fun h=>Int.mul_nonpos_of_nonpos_of_nonneg (by omega) h.2,fun h=>Int.mul_nonpos_of_nonneg_of_nonpos h.1 (by omega),fun h=>zcn h.1 h.2⟩
 push_cast [aa2,zaa]
 refine c7 (fun h1=>?_) (fun h1=>?_)<;>push_cast<;>refine c7 (fun h2=>?_) (fun h2=>?_)<;>push_cast
 all_goals
  simp only [decide_eq_true_eq,decide_eq_false_iff_not] at h1 h2;refine b9 (as':=[int .u64 a.natAbs,int .u64 b.natAbs]) (by first | rw [wa1 h1,wb1 h2] | rw [wa1 h1,wb2 h2] | rw [wa2 h1,wb1 h2] | rw [wa2 h1,wb2 h2]) ?_;refine a5 (as0 a.natAbs b.natAbs (by omega) (by omega)) rfl trivial ?_;rw [hab]
  push_cast [h1,h2,Bool.true_beq,Bool.false_beq]
  generalize a*b=m at *
 ·exact pt (by omega) (by omega)
 ·refine b9 (as':=[jg (-m)]) (by congr 1; exact pt (by omega) (by omega)) ?_;refine a5 (avl (-m)) rfl trivial ?_
  push_cast [jg]
  exact pt (by omega) (by omega)
 ·refine b9 (as':=[jg (-m)]) (by congr 1; exact pt (by omega) (by omega)) ?_;refine a5 (avl (-m)) rfl trivial ?_
  push_cast [jg]
  exact pt (by omega) (by omega)
 ·exact pt (by omega) (by omega)

def aky:Mk P0 f232:={ x:=_ }
theorem ao2:d5 232 3 aky:=c8 func232
def aq2:Mk P0 f196:={ x:=_ }
theorem asv:d5 196 2 aq2:=c8 func196
def adm:Mk P0 f136:={ x:=_ }
theorem ah6:d5 136 2 adm:=c8 func136
theorem a7e (x a:Int) (y:Bool) (hx:in64 x) (ha:in64 a):a8 P0 232 [.ptr 1000000 0 0,.ptr 1000001 0 0,.ptr 1000002 0 0] [.box [int .i64 x],.box [int .i64 a],.box [bl y]] (.tup [])
  [.box [int .i64 (if in64 (x*a) then x*a else 0)],.box [int .i64 a],.box [bl (decide (in64 (x*a)))]]:=by
 refine ao2 rfl (by simp) ?_
 push_cast [aky,zaa]
 refine a5 (bit x a hx ha) rfl trivial ?_
 push_cast [sm]
theorem a4p {a:Int} (h1:-1≤a) (h2:a≤1) (n:Nat):a^(min n (2-n%2))=a^n:=by
 have key:∀m:Nat,1≤m→a^(m+2)=a^m:=fun m hm=>by
  have:a=-1∨a=0∨a=1:=by omega
  rcases this with rfl | rfl | rfl
  ·rw [zch,zch]; omega
  ·rw [Int.zero_pow (by omega),Int.zero_pow (by omega)]
  ·rw [Int.one_pow,Int.one_pow]
 induction n using Nat.strongRecOn with
 | ind n ih=>
  rcases (show n=0∨n=1∨n=2∨3≤n by omega) with h | h | h | h
  ·subst h; rfl
  ·subst h; rfl
  ·subst h; rfl
  ·have:=ih (n-2) (by omega);have e:=key (n-2) (by omega);rw [show n-2+2=n by omega] at e;rw [e,← this];congr 1;omega
theorem azf {x a T:Int} {n:Nat} (hx1:-1≤a∧a≤1→-1≤x∧x≤1) (hx:in64 x) (ha:in64 a) (h:¬in64 (x*a)) (hT:x*a*a^n=T):¬in64 T:=by
 have h4:¬(-1≤a∧a≤1):=fun hs=>by
  have:=hx1 hs;have h4:a=-1∨a=0∨a=1:=by omega
  apply h;unfold in64;rcases h4 with rfl | rfl | rfl<;>omega
 have h5:2≤a.natAbs:=by omega
 have h6:9223372036854775808≤(x*a).natAbs:=by unfold in64 at h; omega
 have h7:T.natAbs=(x*a).natAbs*a.natAbs^n:=by rw [← hT,zcm,Int.natAbs_pow]
 cases n with
 | zero=>
  simp at hT;rw [← hT]; exact h
 | succ n=>
  have h8:2≤a.natAbs^(n+1):=Nat.le_trans h5 (Nat.le_self_pow (by omega) _);have h9:9223372036854775808*2≤(x*a).natAbs*a.natAbs^(n+1):=zce h6 h8;rw [← h7] at h9;unfold in64;omega
theorem bah (a k:Int) (ha:in64 a) (hk:in64 k):a8 P0 196 [int .i64 a,int .i64 k] [] (if k<0 then .tup [int .i64 0,bl false] else sm (a^k.toNat)) []:=by
 refine asv rfl (by decide) ?_;simp only [aq2,push_cast,↓reduceIte,reduceCtorEq,zB,zE,zA,zS,zL,zD,zM];refine c7 (fun h1=>?_) (fun h1=>?_)
 ·simp only [decide_eq_true_eq] at h1;simp only [if_pos h1,push_cast,↓reduceIte,reduceCtorEq,zB,zE,zA,zS,zL,zD,zM]
 ·simp only [decide_eq_false_iff_not] at h1;simp only [if_neg h1,push_cast,↓reduceIte,reduceCtorEq,zB,zE,zA,zS,zL,zD,zM];generalize hT:a^k.toNat=T;refine ai9 (fun e ob=>∃k',e 1=int .i64 k'∧e 2=.ptr 2 0 0∧0≤k'∧in64 k'∧a^k'.toNat=T∧(a=-1∨a=0∨a=1→k'≤2)∧ob=upd 2 (0,.box [int .i64 a]) (fun _=>none)) ?_ (fun h2=>?_) (fun h2=>?_)
  ·rintro e ob ⟨k',he1,he2,hk0,hk1,hkT,hk3,rfl⟩;simp only [he1,he2,push_cast,↓reduceIte,reduceCtorEq,zB,zE,zA,zS,zL,zD,zM]
   refine run_loop [(1,false),(6,false),(2,false),(7,false),(8,false)] (fun vs pos los=>∃(j x:Int) (y:Bool),0≤j∧in64 j∧in64 x∧(y=true→x*a^j.toNat=T)∧(y=false→x=0∧¬in64 T)∧(-1≤a∧a≤1→-1≤x∧x≤1) ∧
    vs=[int .i64 j,.ptr 2000000 0 0,.ptr 2000001 0 0,.ptr 2000002 0 0,.fn (.func 232) [.ptr 2000000 0 0,.ptr 2000001 0 0,.ptr 2000002 0 0]]∧pos=[]∧los=[.box [int .i64 x],.box [int .i64 a],.box [bl y]])
    (fun vs _ _=>match vs with | .r (.v (.int _ j))::_=>j.toNat | _=>0) rfl ?_ ?_
   ·simp only [he1,he2,push_cast,↓reduceIte,reduceCtorEq,zB,zE,zA,zS,zL,zD,zM];exact ⟨k',1,true,hk0,hk1,by decide,fun _=>by rw [Int.one_mul,hkT],by simp,fun _=>by decide,rfl,rfl⟩
   ·rintro vs pos los ⟨j,x,y,j0,j1,x0,hy1,hy2,hx1,rfl,rfl,rfl⟩;simp only [push_cast,↓reduceIte,reduceCtorEq,zB,zE,zA,zS,zL,zD,zM];refine c7 (fun h=>?_) (fun h=>?_)
    ·have hj:0<j:=by
      rcases zcf 0 j with h' | h'
      ·exact h'
      ·simp [show ¬j>0 by omega] at h
     have hy:y=true:=by simpa [hj] using h
     simp only [push_cast,↓reduceIte,reduceCtorEq,zB,zE,zA,zS,zL,zD,zM];refine ⟨by kernel_rfl,?_⟩;refine a5 (a7e x a y x0 ha) rfl ⟨rfl,rfl,rfl,trivial⟩ ?_;simp only [push_cast,↓reduceIte,reduceCtorEq,zB,zE,zA,zS,zL,zD,zM];have hw:IntKind.i64.wrap (j-1)=j-1:=a7 (by unfold in64 at j1; omega);rw [hw];have hjn:j.toNat=(j-1).toNat+1:=by omega
     have hT':x*a*a^(j-1).toNat=T:=by
      rw [← hy1 hy,hjn,zch,Int.mul_assoc,Int.mul_comm a]
     refine ⟨⟨j-1,_,_,by omega,by unfold in64 at j1 ⊢; omega,?_,?_,?_,?_,rfl,rfl⟩,by omega⟩
     ·split
      ·assumption
      ·decide
     ·intro hd;rw [if_pos (of_decide_eq_true hd)];exact hT'
     ·intro hd;have hd:=of_decide_eq_false hd;rw [if_neg hd];refine ⟨rfl,?_⟩;exact azf hx1 x0 ha hd hT'
     ·intro hs;have:=hx1 hs;have h4:a=-1∨a=0∨a=1:=by omega
      split
      ·rcases h4 with rfl | rfl | rfl<;>omega
      ·omega
    ·simp only [push_cast,↓reduceIte,reduceCtorEq,zB,zE,zA,zS,zL,zD,zM];refine ⟨by kernel_rfl,?_⟩;cases y with
     | true=>
      have hj:j=0:=by
       rcases zcf 0 j with h' | h'
       ·simp [h'] at h
       ·omega
      subst hj;have:=hy1 rfl;simp at this;subst this;exact rc rfl x0
     | false=>
      obtain ⟨rfl,hn⟩:=hy2 rfl;exact aik hn
  ·simp only [push_cast,↓reduceIte,reduceCtorEq,zB,zE,zA,zS,zL,zD,zM]
   have h4:a=-1∨a=0∨a=1:=by
    by_cases p:a≥-1<;>by_cases q:a≤1<;>simp [p,q] at h2<;>omega
   have e0:k.tmod 2=k%2:=by
    rw [zci (by omega)]
   have ew:IntKind.i64.wrap (2-k.tmod 2)=2-k%2:=by rw [e0]; exact a7 (by omega)
   rw [ew];refine ⟨by decide,min k (2-k%2),rfl,by omega,by unfold in64 at *; omega,?_,by omega⟩;rw [show (min k (2-k%2)).toNat=min k.toNat (2-k.toNat%2) by omega,a4p (by omega) (by omega),hT]
  ·simp only [push_cast,↓reduceIte,reduceCtorEq,zB,zE,zA,zS,zL,zD,zM];refine ⟨k,rfl,by omega,hk,hT,fun h=>?_⟩;rcases h with rfl | rfl | rfl<;>simp at h2

theorem a76 {a:Int} (h:-1≤a∧a≤1) (n:Nat):-1≤a^n∧a^n≤1:=by
 induction n with
 | zero=>simp
 | succ n ih=>
  rw [zch];have:a=-1∨a=0∨a=1:=by omega
  rcases this with rfl | rfl | rfl<;>omega
theorem amg (n:Nat):(-1:Int)^n=if n%2=1 then -1 else 1:=by
 induction n with
 | zero=>rfl
 | succ n ih=>
  rw [zch,ih];split<;>split<;>omega
theorem bfd (a k:Int) (ha:in64 a) (hk:in64 k):a8 P0 136 [int .i64 a,int .i64 k] [] (if k<0 then .tup [int .i64 0,bl false] else sm (a^k.toNat)) []:=by
 refine ah6 rfl (by decide) ?_;simp only [adm,push_cast,↓reduceIte,reduceCtorEq,zB,zE,zA,zS,zL,zD,zM];refine c7 (fun h1=>?_) (fun h1=>?_)
 ·simp only [decide_eq_true_eq] at h1;simp only [if_pos h1,push_cast,↓reduceIte,reduceCtorEq,zB,zE,zA,zS,zL,zD,zM]
 ·simp only [decide_eq_false_iff_not] at h1;simp only [if_neg h1,push_cast,↓reduceIte,reduceCtorEq,zB,zE,zA,zS,zL,zD,zM]
  refine run_loop [(0,false),(1,false),(6,false),(7,false)] (fun vs pos los=>∃(n i:Int),0≤i∧i≤k∧in64 n∧n=a^i.toNat∧vs=[int .i64 a,int .i64 k,int .i64 n,int .i64 i]∧pos=[]∧los=[])
   (fun vs _ _=>match vs with | [_,_,_,.r (.v (.int _ j))]=>(k-j).toNat | _=>0) rfl ?_ ?_
  ·simp only [push_cast,↓reduceIte,reduceCtorEq,zB,zE,zA,zS,zL,zD,zM];exact ⟨1,0,by omega,by omega,by decide,by simp,rfl⟩
  ·rintro vs pos los ⟨n,i,i0,ik,hn,hna,rfl,rfl,rfl⟩;simp only [push_cast,↓reduceIte,reduceCtorEq,zB,zE,zA,zS,zL,zD,zM];unfold in64 at hk;refine c7 (fun h=>?_) (fun h=>?_)
   ·simp only [decide_eq_true_eq] at h;simp only [push_cast,↓reduceIte,reduceCtorEq,zB,zE,zA,zS,zL,zD,zM]
    repeat refine And.intro (by simp +contextual) ?_
    have hT:n*a*a^(k-i-1).toNat=a^k.toNat:=by
     rw [hna,Int.mul_assoc,← Int.pow_succ',← Int.pow_add];congr 1;omega
    refine c7 (fun h2=>?_) (fun h2=>?_)
    ·simp only [push_cast,↓reduceIte,reduceCtorEq,zB,zE,zA,zS,zL,zD,zM]
     have h3:n=0∨a=1:=by
      by_cases p:n=0<;>by_cases q:n=1<;>by_cases r:a=1<;>simp [p,q,r] at h2 ⊢
     refine rc ?_ ?_
     ·rcases h3 with h3 | h3
      ·rw [← hT,h3]; simp
      ·rw [hna,h3,Int.one_pow,Int.one_pow]
     ·rcases h3 with h3 | h3
      ·rw [← hT,h3]; simp; decide
      ·rw [h3,Int.one_pow]; decide
    ·simp only [push_cast,↓reduceIte,reduceCtorEq,zB,zE,zA,zS,zL,zD,zM];refine c7 (fun h4=>?_) (fun h4=>?_)
     ·simp only [push_cast,↓reduceIte,reduceCtorEq,zB,zE,zA,zS,zL,zD,zM];have h4:a=-1:=by simpa using h4
      subst h4;have e0:k.tmod 2=k%2:=zci (by omega);refine ⟨by decide,?_⟩;rw [e0];refine c7 (fun h5=>?_) (fun h5=>?_)
      ·simp only [push_cast,↓reduceIte,reduceCtorEq,zB,zE,zA,zS,zL,zD,zM];have h5:k%2=1:=by simpa using h5
       exact rc (by rw [amg,if_pos (by omega)]) (by rw [amg,if_pos (by omega)]; decide)
      ·simp only [push_cast,↓reduceIte,reduceCtorEq,zB,zE,zA,zS,zL,zD,zM];have h5:¬k%2=1:=by simpa using h5
       exact rc (by rw [amg,if_neg (by omega)]) (by rw [amg,if_neg (by omega)]; decide)
     ·simp only [push_cast,↓reduceIte,reduceCtorEq,zB,zE,zA,zS,zL,zD,zM];refine a5 (bbf n a hn ha) rfl trivial ?_;simp only [jg,push_cast,↓reduceIte,reduceCtorEq,zB,zE,zA,zS,zL,zD,zM]
      have hb:(n*a).natAbs≤9223372036854775808*9223372036854775808:=by
       rw [zcm];unfold in64 at hn ha;exact zce (by omega) (by omega)
      refine b9 (as':=[jg (n*a)]) rfl ?_;refine a5 (bbn (n*a) (by omega)) rfl trivial ?_;simp only [sm,push_cast,↓reduceIte,reduceCtorEq,zB,zE,zA,zS,zL,zD,zM];refine c7 (fun h6=>?_) (fun h6=>?_)
      ·simp only [push_cast,↓reduceIte,reduceCtorEq,zB,zE,zA,zS,zL,zD,zM];have h6:¬in64 (n*a):=by simpa using h6
       refine aik ?_;exact azf (fun hs=>by rw [hna]; exact a76 hs _) hn ha h6 hT
      ·simp only [push_cast,↓reduceIte,reduceCtorEq,zB,zE,zA,zS,zL,zD,zM];have h6:in64 (n*a):=by simpa using h6
       rw [if_pos h6,show IntKind.i64.wrap (i+1)=i+1 from a7 (by omega)];refine ⟨⟨n*a,i+1,by omega,by omega,h6,?_,rfl⟩,by omega⟩;rw [show (i+1).toNat=i.toNat+1 by omega,zch,← hna]
   ·simp only [decide_eq_false_iff_not] at h;simp only [push_cast,↓reduceIte,reduceCtorEq,zB,zE,zA,zS,zL,zD,zM];have:i=k:=by omega
    subst this;exact rc hna (by rw [← hna]; exact hn)

def ag3:Mk P0 f169:={ x:=_ }
theorem agi:d5 169 1 ag3:=c8 func169
def adb:PC:=
  (.seq (.reg [p_s 2 (.mov (o_i 0))])
 (.seq (.seq (.reg [p_m 3 0,p_s 4 (.bin .geq (.t 3) (.c (.r (.v (.int .u64 4294967296)))))])
 (.cond (.t 4)
 (.seq (.reg [p_m 5 0,p_s 6 (.bin .shr (.t 5) (.c (.r (.v (.int .u64 32))))),p_m 0 6])
 (.reg [p_s 2 (.mov (o_i 32))]))
 .skip))
 (.seq (.seq (.reg [p_m 7 0,p_s 8 (.bin .geq (.t 7) (.c (.r (.v (.int .u64 65536)))))])
 (.cond (.t 8)
 (.seq (.reg [p_m 9 0,p_s 10 (.bin .shr (.t 9) (.c (.r (.v (.int .u64 16))))),p_m 0 10])
 (.reg [p_m 11 2,p_s 12 (.bin .add (.t 11) (o_i 16)),p_m 2 12]))
 .skip))
 (.seq (.seq (.reg [p_m 13 0,p_s 14 (.bin .geq (.t 13) (.c (.r (.v (.int .u64 256)))))])
 (.cond (.t 14)
 (.seq (.reg [p_m 15 0,p_s 16 (.bin .shr (.t 15) (.c (.r (.v (.int .u64 8))))),p_m 0 16])
 (.reg [p_m 17 2,p_s 18 (.bin .add (.t 17) (o_i 8)),p_m 2 18]))
 .skip))
 (.seq (.reg [p_m 19 2,p_m 20 0,p_s 21 (.conv .u8 (.t 20)),p_s 22 (.ixs (.c (.r (.v (.string ⟨#[0,1,2,2,3,3,3,3,4,4,4,4,4,4,4,4,5,5,5,5,5,5,5,5,5,5,5,5,5,5,5,5,6,6,6,6,6,6,6,6,6,6,6,6,6,6,6,6,6,6,6,6,6,6,6,6,6,6,6,6,6,6,6,6,7,7,7,7,7,7,7,7,7,7,7,7,7,7,7,7,7,7,7,7,7,7,7,7,7,7,7,7,7,7,7,7,7,7,7,7,7,7,7,7,7,7,7,7,7,7,7,7,7,7,7,7,7,7,7,7,7,7,7,7,7,7,7,7,8,8,8,8,8,8,8,8,8,8,8,8,8,8,8,8,8,8,8,8,8,8,8,8,8,8,8,8,8,8,8,8,8,8,8,8,8,8,8,8,8,8,8,8,8,8,8,8,8,8,8,8,8,8,8,8,8,8,8,8,8,8,8,8,8,8,8,8,8,8,8,8,8,8,8,8,8,8,8,8,8,8,8,8,8,8,8,8,8,8,8,8,8,8,8,8,8,8,8,8,8,8,8,8,8,8,8,8,8,8,8,8,8,8,8,8,8,8,8,8,8,8,8,8,8,8,8,8]⟩)))) (.t 21)),
 p_s 23 (.conv .i64 (.t 22)),p_s 24 (.bin .add (.t 19) (.t 23)),p_m 2 24])
 .ret)))))
theorem adl:Fun P0 214 1 [(2,false,none)] adb:=ae3 func214 rfl (by decide) (by kernel_rfl) (by decide) rfl (by kernel_rfl) (by kernel_rfl) (by decide)

structure Ei where
 a:Int
 b:Int
deriving DecidableEq
def Ei.rv (z:Ei):RV:=.agg [.v (.int .i64 z.a),.v (.int .i64 z.b)]
def Ei.v (z:Ei):AV:=.r z.rv
def Ei.mul (x y:Ei):Ei:=⟨x.a*y.a-x.b*y.b,x.a*y.b+x.b*y.a+x.b*y.b⟩
def Ei.add (x y:Ei):Ei:=⟨x.a+y.a,x.b+y.b⟩
def Ei.sub (x y:Ei):Ei:=⟨x.a-y.a,x.b-y.b⟩
def Ei.conj (x:Ei):Ei:=⟨x.a+x.b,-x.b⟩
def Ei.In (z:Ei) (n:Int):Prop:=(-n≤z.a∧z.a≤n)∧(-n≤z.b∧z.b≤n)
def Ei.H (z:Ei) (n:Int):Prop:=(-n≤z.a∧z.a≤n)∧(-n≤z.b∧z.b≤n)∧(-n≤z.a+z.b∧z.a+z.b≤n)
theorem Ei.ext' {x y:Ei} (h1:x.a=y.a) (h2:x.b=y.b):x=y:=by cases x; cases y; simp_all
theorem Ei.In.mono {z:Ei} {n m:Int} (h:z.In n) (hm:n≤m):z.In m:=by unfold Ei.In at *; omega
theorem Ei.H.mono {z:Ei} {n m:Int} (h:z.H n) (hm:n≤m):z.H m:=by unfold Ei.H at *; omega
theorem Ei.H.in {z:Ei} {n:Int} (h:z.H n):z.In n:=by unfold Ei.H Ei.In at *; omega
def fv:Ei:=⟨2,1⟩
theorem gc {x y n m:Int} (h1:-n≤x∧x≤n) (h2:-m≤y∧y≤m):-(n*m)≤x*y∧x*y≤n*m:=by
 have h:(x*y).natAbs≤n.toNat*m.toNat:=by rw [zcm]; exact zce (by omega) (by omega)
 have h3:((n.toNat*m.toNat:Nat):Int)=n*m:=by
  rw [Int.natCast_mul,Int.toNat_of_nonneg (by omega),Int.toNat_of_nonneg (by omega)]
 omega
def l7 (d s t:Int):Prop:=(-d≤2*s+t∧2*s+t≤d)∧(-d≤s+2*t∧s+2*t≤d)∧(-d≤s-t∧s-t≤d)
instance (d s t:Int):Decidable (l7 d s t):=inferInstanceAs (Decidable (_∧_∧_))
def qn (d s t:Int):Ei:=if l7 d s t then ⟨0,0⟩ else if l7 d s (t-d) then ⟨0,1⟩ else if l7 d (s-d) t then ⟨1,0⟩ else ⟨1,1⟩
def Ei.round (u:Ei) (d:Int):Ei:=⟨u.a/d+(qn d (u.a%d) (u.b%d)).a,u.b/d+(qn d (u.a%d) (u.b%d)).b⟩
theorem a11 {d s t:Int} (hs:0≤s∧s<d) (ht:0≤t∧t<d) :
  l7 d (s-(qn d s t).a*d) (t-(qn d s t).b*d)∧(0≤(qn d s t).a∧(qn d s t).a≤1)∧(0≤(qn d s t).b∧(qn d s t).b≤1):=by
 unfold qn;split
 ·next h=>unfold l7 at *; dsimp only; omega
 ·split
  ·next h=>unfold l7 at *; dsimp only; omega
  ·split
   ·next h=>unfold l7 at *; dsimp only; omega
   ·next h=>unfold l7 at *; dsimp only; omega
def fr (d a b:Int) (z:Ei):Int:=d*(z.a*z.a+z.a*z.b+z.b*z.b)-z.a*(2*a+b)-z.b*(a+2*b)
def pk (d a b:Int) (p:Int×Ei) (z:Ei):Int×Ei:=if fr d a b z<p.1 then (fr d a b z,z) else p
def ab9:List Ei:=[⟨0,1⟩,⟨1,0⟩,⟨1,1⟩]
theorem ayg {d a b:Int} (ha:0≤a∧a<d) (hb:0≤b∧b<d):(ab9.foldl (pk d a b) (0,⟨0,0⟩)).2=qn d a b:=by
 simp only [ab9,List.foldl_cons,List.foldl_nil];have e1:fr d a b ⟨0,1⟩=d-(a+2*b):=by simp [fr]
 have e2:fr d a b ⟨1,0⟩=d-(2*a+b):=by simp [fr]
 have e3:fr d a b ⟨1,1⟩=d*3-(2*a+b)-(a+2*b):=by simp [fr]
 unfold qn;by_cases c1:d-(a+2*b)<0
 ·by_cases c2:d-(2*a+b)<d-(a+2*b)
  ·by_cases c3:d*3-(2*a+b)-(a+2*b)<d-(2*a+b)
   ·simp only [pk,e1,e2,e3,c1,c2,c3,if_true];rw [if_neg (by unfold l7; omega),if_neg (by unfold l7; omega),if_neg (by unfold l7; omega)]
   ·simp only [pk,e1,e2,e3,c1,c2,c3,if_true,if_false];rw [if_neg (by unfold l7; omega),if_neg (by unfold l7; omega),if_pos (by unfold l7; omega)]
  ·by_cases c3:d*3-(2*a+b)-(a+2*b)<d-(a+2*b)
   ·simp only [pk,e1,e2,e3,c1,c2,c3,if_true,if_false];rw [if_neg (by unfold l7; omega),if_neg (by unfold l7; omega),if_neg (by unfold l7; omega)]
   ·simp only [pk,e1,e2,e3,c1,c2,c3,if_true,if_false];rw [if_neg (by unfold l7; omega),if_pos (by unfold l7; omega)]
 ·by_cases c2:d-(2*a+b)<0
  ·by_cases c3:d*3-(2*a+b)-(a+2*b)<d-(2*a+b)
   ·simp only [pk,e1,e2,e3,c1,c2,c3,if_true,if_false];rw [if_neg (by unfold l7; omega),if_neg (by unfold l7; omega),if_neg (by unfold l7; omega)]
   ·simp only [pk,e1,e2,e3,c1,c2,c3,if_true,if_false];rw [if_neg (by unfold l7; omega),if_neg (by unfold l7; omega),if_pos (by unfold l7; omega)]
  ·by_cases c3:d*3-(2*a+b)-(a+2*b)<0
   ·exfalso; omega
   ·simp only [pk,e1,e2,e3,c1,c2,c3,if_true,if_false];rw [if_pos (by unfold l7; omega)]
theorem j9 (u:Ei) {d:Int} (hd:0<d):l7 d (u.a-(u.round d).a*d) (u.b-(u.round d).b*d):=by
 have h1:=zct u.a d;have h2:=zct u.b d;have h3:=zby u.a hd;have h4:=zbz u.a (show d≠0 by omega);have h5:=zby u.b hd;have h6:=zbz u.b (show d≠0 by omega);obtain ⟨h,_⟩:=a11 (d:=d) (s:=u.a%d) (t:=u.b%d) ⟨h4,h3⟩ ⟨h6,h5⟩
 have e1:u.a-(u.round d).a*d=u.a%d-(qn d (u.a%d) (u.b%d)).a*d:=by
  simp only [Ei.round,Int.add_mul];rw [Int.mul_comm (u.a/d) d];omega
 have e2:u.b-(u.round d).b*d=u.b%d-(qn d (u.a%d) (u.b%d)).b*d:=by
  simp only [Ei.round,Int.add_mul];rw [Int.mul_comm (u.b/d) d];omega
 rw [e1,e2]; exact h
def pr (z:Ei):Ei:=(z.mul ⟨3,-1⟩).round 7
def lft (z:Ei):Ei:=z.sub ((pr z).mul fv)
def dgOf (l:Ei):Nat:=if l=⟨1,0⟩ then 1 else if l=⟨0,1⟩ then 2 else if l=⟨-1,1⟩ then 3 else if l=⟨-1,0⟩ then 4 else if l=⟨0,-1⟩ then 5 else if l=⟨1,-1⟩ then 6 else 0
def dg (z:Ei):Nat:=dgOf (lft z)
def uni (d:Nat):Ei:=match d with | 0=>⟨1,0⟩ | 1=>⟨0,1⟩ | 2=>⟨-1,1⟩ | 3=>⟨-1,0⟩ | 4=>⟨0,-1⟩ | _=>⟨1,-1⟩
def ad8 (z:Ei) (d:Nat):Ei:=if d=0 then z.mul fv else (z.mul fv).add (uni (d-1))
theorem dg_lt (z : Ei) : dg z < 7 := by unfold dg dgOf; repeat' split
                                        all_goals omega
theorem aej (z:Ei):∃l:Ei,lft z=l∧l.H 1∧z.a=2*(pr z).a-(pr z).b+l.a∧z.b=(pr z).a+3*(pr z).b+l.b:=by
 have h:=j9 (z.mul ⟨3,-1⟩) (d:=7) (by decide);refine ⟨lft z,rfl,?_,?_,?_⟩
 ·unfold l7 at h;unfold Ei.H lft Ei.sub pr;simp only [Ei.mul,fv] at *;generalize Ei.round _ 7=q at *;simp only [Int.mul_one,Int.mul_neg] at *;omega
 ·simp only [lft,Ei.sub,Ei.mul,fv]; omega
 ·simp only [lft,Ei.sub,Ei.mul,fv]; omega
theorem a2j (z:Ei):ad8 (pr z) (dg z)=z:=by
 obtain ⟨l,hl,h1,h2,h3⟩:=aej z;have h0:=j9 (z.mul ⟨3,-1⟩) (d:=7) (by decide)
 have hl7:l=⟨0,0⟩∨l=⟨1,0⟩∨l=⟨0,1⟩∨l=⟨-1,1⟩∨l=⟨-1,0⟩∨l=⟨0,-1⟩∨l=⟨1,-1⟩:=by
  obtain ⟨a,b⟩:=l;unfold Ei.H at h1;dsimp only at h1;simp only [Ei.mk.injEq];omega
 unfold ad8 dg;rw [hl];rcases hl7 with rfl | rfl | rfl | rfl | rfl | rfl | rfl<;>apply Ei.ext'<;>simp [dgOf,uni,Ei.add,Ei.mul,fv] at h2 h3 ⊢ <;> omega
def anc:Nat→Ei→Ei
 | 0,z=>z
 | k+1,z=>anc k (pr z)
theorem axy (k:Nat) (z:Ei):anc (k+1) z=pr (anc k z):=by
 induction k generalizing z with
 | zero=>rfl
 | succ k ih=>rw [anc,ih]; rfl
def val:Nat→Ei→Nat
 | 0,_=>0
 | r+1,z=>val r (pr z)*8+dg z
theorem beo (r:Nat) (z:Ei):val r z<8^r:=by
 induction r generalizing z with
 | zero=>simp [val]
 | succ r ih=>
  have:=ih (pr z);have:=dg_lt z;rw [val,zcj];omega
theorem ba7 (r i:Nat) (z:Ei) (h:i≤r):val r z/8^i=val (r-i) (anc i z):=by
 induction i generalizing r z with
 | zero=>simp [anc]
 | succ i ih=>
  obtain ⟨r,rfl⟩:∃m,r=m+1:=⟨r-1,by omega⟩
  rw [show r+1-(i+1)=r-i by omega,anc,← ih r (pr z) (by omega),zcj,zco,← zcv,val];have:=dg_lt z;congr 1;omega
def okc (r:Nat) (z:Ei):Prop:=r≤12∧z.In 1073741824∧(-512≤(anc r z).a∧(anc r z).a≤511)∧(-512≤(anc r z).b∧(anc r z).b≤511)
instance (r:Nat) (z:Ei):Decidable (okc r z):=by unfold okc Ei.In; infer_instance
def rq (r:Nat) (q:Ei):Nat:=((16+r)*1024+(q.a+512).toNat)*1024+(q.b+512).toNat
def ao (r:Nat) (z:Ei):Nat:=(rq r (anc r z)*8^r+val r z)*8^(12-r)+(8^(12-r)-1)
def dgt (w i:Nat):Nat:=w/8^(12-i)%8
def ei (w:Nat):Nat:=w/72057594037927936%16
def a2w (w:Nat):Ei:=⟨((w/70368744177664%1024:Nat):Int)-512,((w/68719476736%1024:Nat):Int)-512⟩
def ah (w:Nat):Nat→Ei
 | 0=>a2w w
 | i+1=>ad8 (ah w i) (dgt w (i+1))
def isW (w:Nat):Prop:=w/1152921504606846976=1∧ei w≤12∧∀i,1≤i→i≤12→(dgt w i=7↔ei w<i)
theorem ah9 (r:Nat) (z:Ei) (hr:r≤12):ao r z/68719476736=rq r (anc r z):=by
 have hv:=beo r z;have e:(68719476736:Nat)=8^r*8^(12-r):=by rw [← Nat.pow_add,show r+(12-r)=12 by omega]
 have hp:0<8^(12-r):=zca (by decide);have hq:0<8^r:=zca (by decide);rw [e,zco (8^r),← zcv,ao]
 have h1:((rq r (anc r z)*8^r+val r z)*8^(12-r)+(8^(12-r)-1))/8^(12-r)=rq r (anc r z)*8^r+val r z:=by
  rw [Nat.add_comm,zcp _ _ hp,zcw (by omega)]; omega
 rw [h1,Nat.add_comm,zcp _ _ hq,zcw hv]; omega
theorem an8 (r i:Nat) (z:Ei) (hr:r≤12) (h1:1≤i) (h2:i≤r):dgt (ao r z) i=dg (anc (r-i) z):=by
 have hp:0<8^(12-r):=zca (by decide);have e:8^(12-i)=8^(12-r)*8^(r-i):=by rw [← Nat.pow_add,show 12-r+(r-i)=12-i by omega]
 unfold dgt ao;rw [e,← zcv]
 have h3:((rq r (anc r z)*8^r+val r z)*8^(12-r)+(8^(12-r)-1))/8^(12-r)=rq r (anc r z)*8^r+val r z:=by
  rw [Nat.add_comm,zcp _ _ hp,zcw (by omega)]; omega
 rw [h3]
 have e2:rq r (anc r z)*8^r=rq r (anc r z)*8^(i-1)*8*8^(r-i):=by
  rw [zcd (rq r (anc r z)),← zcj,zcd,← Nat.pow_add,show i-1+1+(r-i)=r by omega]
 rw [e2,Nat.add_comm,zcp _ _ (zca (by decide)),ba7 r (r-i) z (by omega),show r-(r-i)=(i-1)+1 by omega,val];have:=dg_lt (anc (r-i) z);generalize rq r (anc r z)*8^(i-1)=m;omega
theorem apx (r i:Nat) (z:Ei) (h1:r<i) (h2:i≤12):dgt (ao r z) i=7:=by
 unfold dgt ao;have e:8^(12-r)=8^(i-r-1)*8*8^(12-i):=by rw [← zcj,← Nat.pow_add,show i-r-1+1+(12-i)=12-r by omega]
 have hq:0<8^(12-i):=zca (by decide);have hq2:0<8^(i-r-1):=zca (by decide);rw [e];generalize rq r (anc r z)*8^r+val r z=m;generalize hx:8^(i-r-1)=x at *;generalize hy:8^(12-i)=y at *
 have h3:m*(x*8*y)+(x*8*y-1)=(y-1)+(m*(x*8)+(x*8-1))*y:=by
  have:(x*8-1)*y=x*8*y-y:=by rw [Nat.sub_mul,Nat.one_mul]
  have h5:y≤x*8*y:=Nat.le_mul_of_pos_left _ (by omega);rw [Nat.add_mul,this,← zcd];omega
 rw [h3,zcp _ _ hq,zcw (by omega)];have h4:m*(x*8)=m*x*8:=(zcd _ _ _).symm;omega
theorem ai3 (r:Nat) (q:Ei) (hr:r≤12) (ha:-512≤q.a∧q.a≤511) (hb:-512≤q.b∧q.b≤511) :
  rq r q/16777216=1∧rq r q/1048576%16=r∧((rq r q/1024%1024:Nat):Int)-512=q.a∧((rq r q%1024:Nat):Int)-512=q.b:=by
 unfold rq;omega
theorem asb (r:Nat) (z:Ei) (h:okc r z):ao r z<18446744073709551616:=by
 have h1:=ah9 r z h.1;have h2:=ai3 r (anc r z) h.1 h.2.2.1 h.2.2.2;omega
theorem an7 (r:Nat) (z:Ei) (h:okc r z):isW (ao r z)∧ei (ao r z)=r:=by
 have h1:=ah9 r z h.1;have h2:=ai3 r (anc r z) h.1 h.2.2.1 h.2.2.2;have h3:ei (ao r z)=r:=by unfold ei; omega
 refine ⟨⟨by omega,by rw [h3]; exact h.1,fun i i1 i2=>?_⟩,h3⟩;rw [h3];by_cases hi:r<i
 ·simp [hi,apx r i z hi i2]
 ·simp only [hi,iff_false];rw [an8 r i z h.1 i1 (by omega)];have:=dg_lt (anc (r-i) z);omega
theorem a28 (r i:Nat) (z:Ei) (h:okc r z) (hi:i≤r):ah (ao r z) i=anc (r-i) z:=by
 induction i with
 | zero=>
  have h1:=ah9 r z h.1;have h2:=ai3 r (anc r z) h.1 h.2.2.1 h.2.2.2;apply Ei.ext'<;>simp only [ah,a2w]<;>rw [Nat.sub_zero]<;>omega
 | succ i ih=>
  rw [ah,ih (by omega),an8 r (i+1) z h.1 (by omega) hi];rw [show r-i=r-(i+1)+1 by omega,axy,a2j]

def g7:Nat→Ei
 | 0=>⟨1,0⟩
 | k+1=>(g7 k).mul fv
theorem abw (k:Nat) (h:k≤12):(g7 k).In 120000:=by
 have:∀j:Fin 13,(g7 j.val).In 120000:=by unfold Ei.In; decide
 exact this ⟨k,by omega⟩
def ax (x y:Int):Ei:=⟨45*x-26*y,52*y⟩
def i5 (x y:Int) (r:Nat):Ei:=((ax x y).mul (g7 (12-r)).conj).round (2340*7^(12-r))
theorem ac2 {z:Ei} {n m:Int} (h:z.H n) (hm:3*n+4<7*(m+1)):(pr z).H m:=by
 have h7:=j9 (z.mul ⟨3,-1⟩) (d:=7) (by decide);unfold l7 at h7;unfold Ei.H pr at *;simp only [Ei.mul] at *;generalize Ei.round _ 7=q at *;simp only [Int.mul_one,Int.mul_neg] at *;omega
theorem du {z:Ei} {n m:Int} (h:z.H n) (hm:19*n+330<343*(m+1)):(anc 3 z).H m:=by
 obtain ⟨l1,_,g1,e1,f1⟩:=aej z;obtain ⟨l2,_,g2,e2,f2⟩:=aej (pr z);obtain ⟨l3,_,g3,e3,f3⟩:=aej (pr (pr z));show (pr (pr (pr z))).H m;generalize pr (pr (pr z))=q at *;generalize pr (pr z)=q2 at *;generalize pr z=q1 at *;unfold Ei.H at *;omega
theorem azt (x y:Int) (hx:0≤x∧x<1073741824) (hy:0≤y∧y<1073741824):(i5 x y 0).H 260:=by
 have h:=j9 ((ax x y).mul (g7 (12-0)).conj) (d:=2340*7^(12-0)) (by decide);have e:(g7 (12-0)).conj=⟨-128231,102960⟩:=by decide
 have ed:(2340*7^(12-0):Int)=32388612050340:=by decide
 unfold i5;generalize Ei.round _ _=q at *;rw [e,ed] at h;unfold l7 Ei.H at *;simp only [Ei.mul,ax] at *;omega
theorem azs (x y:Int) (hx:0≤x∧x<1073741824) (hy:0≤y∧y<1073741824):(i5 x y 1).H 734:=by
 have h:=j9 ((ax x y).mul (g7 (12-1)).conj) (d:=2340*7^(12-1)) (by decide);have e:(g7 (12-1)).conj=⟨-51346,25807⟩:=by decide
 have ed:(2340*7^(12-1):Int)=4626944578620:=by decide
 unfold i5;generalize Ei.round _ _=q at *;rw [e,ed] at h;unfold l7 Ei.H at *;simp only [Ei.mul,ax] at *;omega
theorem azr (x y:Int) (hx:0≤x∧x<1073741824) (hy:0≤y∧y<1073741824):(i5 x y 2).H 2004:=by
 have h:=j9 ((ax x y).mul (g7 (12-2)).conj) (d:=2340*7^(12-2)) (by decide);have e:(g7 (12-2)).conj=⟨-18357,3725⟩:=by decide
 have ed:(2340*7^(12-2):Int)=660992082660:=by decide
 unfold i5;generalize Ei.round _ _=q at *;rw [e,ed] at h;unfold l7 Ei.H at *;simp only [Ei.mul,ax] at *;omega
theorem azq (x y:Int) (hx:0≤x∧x<1073741824) (hy:0≤y∧y<1073741824):(i5 x y 3).H 4887:=by
 have h:=j9 ((ax x y).mul (g7 (12-3)).conj) (d:=2340*7^(12-3)) (by decide);have e:(g7 (12-3)).conj=⟨-5777,-1026⟩:=by decide
 have ed:(2340*7^(12-3):Int)=94427440380:=by decide
 unfold i5;generalize Ei.round _ _=q at *;rw [e,ed] at h;unfold l7 Ei.H at *;simp only [Ei.mul,ax] at *;omega
theorem azp (x y:Int) (hx:0≤x∧x<1073741824) (hy:0≤y∧y<1073741824):(i5 x y 4).H 13376:=by
 have h:=j9 ((ax x y).mul (g7 (12-4)).conj) (d:=2340*7^(12-4)) (by decide);have e:(g7 (12-4)).conj=⟨-1504,-1265⟩:=by decide
 have ed:(2340*7^(12-4):Int)=13489634340:=by decide
 unfold i5;generalize Ei.round _ _=q at *;rw [e,ed] at h;unfold l7 Ei.H at *;simp only [Ei.mul,ax] at *;omega
theorem azo (x y:Int) (hx:0≤x∧x<1073741824) (hy:0≤y∧y<1073741824):(i5 x y 5).H 37163:=by
 have h:=j9 ((ax x y).mul (g7 (12-5)).conj) (d:=2340*7^(12-5)) (by decide);have e:(g7 (12-5)).conj=⟨-249,-757⟩:=by decide
 have ed:(2340*7^(12-5):Int)=1927090620:=by decide
 unfold i5;generalize Ei.round _ _=q at *;rw [e,ed] at h;unfold l7 Ei.H at *;simp only [Ei.mul,ax] at *;omega
theorem azn (x y:Int) (hx:0≤x∧x<1073741824) (hy:0≤y∧y<1073741824):(i5 x y 6).H 92189:=by
 have h:=j9 ((ax x y).mul (g7 (12-6)).conj) (d:=2340*7^(12-6)) (by decide);have e:(g7 (12-6)).conj=⟨37,-360⟩:=by decide
 have ed:(2340*7^(12-6):Int)=275298660:=by decide
 unfold i5;generalize Ei.round _ _=q at *;rw [e,ed] at h;unfold l7 Ei.H at *;simp only [Ei.mul,ax] at *;omega
theorem azm (x y:Int) (hx:0≤x∧x<1073741824) (hy:0≤y∧y<1073741824):(i5 x y 7).H 243699:=by
 have h:=j9 ((ax x y).mul (g7 (12-7)).conj) (d:=2340*7^(12-7)) (by decide);have e:(g7 (12-7)).conj=⟨62,-149⟩:=by decide
 have ed:(2340*7^(12-7):Int)=39328380:=by decide
 unfold i5;generalize Ei.round _ _=q at *;rw [e,ed] at h;unfold l7 Ei.H at *;simp only [Ei.mul,ax] at *;omega
theorem azl (x y:Int) (hx:0≤x∧x<1073741824) (hy:0≤y∧y<1073741824):(i5 x y 8).H 688202:=by
 have h:=j9 ((ax x y).mul (g7 (12-8)).conj) (d:=2340*7^(12-8)) (by decide);have e:(g7 (12-8)).conj=⟨39,-55⟩:=by decide
 have ed:(2340*7^(12-8):Int)=5618340:=by decide
 unfold i5;generalize Ei.round _ _=q at *;rw [e,ed] at h;unfold l7 Ei.H at *;simp only [Ei.mul,ax] at *;omega
theorem azk (x y:Int) (hx:0≤x∧x<1073741824) (hy:0≤y∧y<1073741824):(i5 x y 9).H 1735123:=by
 have h:=j9 ((ax x y).mul (g7 (12-9)).conj) (d:=2340*7^(12-9)) (by decide);have e:(g7 (12-9)).conj=⟨19,-18⟩:=by decide
 have ed:(2340*7^(12-9):Int)=802620:=by decide
 unfold i5;generalize Ei.round _ _=q at *;rw [e,ed] at h;unfold l7 Ei.H at *;simp only [Ei.mul,ax] at *;omega
theorem awo (x y:Int) (hx:0≤x∧x<1073741824) (hy:0≤y∧y<1073741824):(i5 x y 10).H 4429444:=by
 have h:=j9 ((ax x y).mul (g7 (12-10)).conj) (d:=2340*7^(12-10)) (by decide);have e:(g7 (12-10)).conj=⟨8,-5⟩:=by decide
 have ed:(2340*7^(12-10):Int)=114660:=by decide
 unfold i5;generalize Ei.round _ _=q at *;rw [e,ed] at h;unfold l7 Ei.H at *;simp only [Ei.mul,ax] at *;omega
theorem awn (x y:Int) (hx:0≤x∧x<1073741824) (hy:0≤y∧y<1073741824):(i5 x y 11).H 12717090:=by
 have h:=j9 ((ax x y).mul (g7 (12-11)).conj) (d:=2340*7^(12-11)) (by decide);have e:(g7 (12-11)).conj=⟨3,-1⟩:=by decide
 have ed:(2340*7^(12-11):Int)=16380:=by decide
 unfold i5;generalize Ei.round _ _=q at *;rw [e,ed] at h;unfold l7 Ei.H at *;simp only [Ei.mul,ax] at *;omega
theorem awm (x y:Int) (hx:0≤x∧x<1073741824) (hy:0≤y∧y<1073741824):(i5 x y 12).H 32579347:=by
 have h:=j9 ((ax x y).mul (g7 (12-12)).conj) (d:=2340*7^(12-12)) (by decide);have e:(g7 (12-12)).conj=⟨1,0⟩:=by decide
 have ed:(2340*7^(12-12):Int)=2340:=by decide
 unfold i5;generalize Ei.round _ _=q at *;rw [e,ed] at h;unfold l7 Ei.H at *;simp only [Ei.mul,ax] at *;omega
theorem bhn {z:Ei} (h0:z.H 260):(anc 0 z).H 511:=by
 exact h0.mono (by decide)
theorem a10 (x y:Int) (hx:0≤x∧x<1073741824) (hy:0≤y∧y<1073741824):(anc 0 (i5 x y 0)).H 511:=bhn (azt x y hx hy)
theorem bhm {z:Ei} (h0:z.H 734):(anc 1 z).H 511:=by
 have h1:=ac2 (m:=315) h0 (by decide);exact h1.mono (by decide)
theorem a1z (x y:Int) (hx:0≤x∧x<1073741824) (hy:0≤y∧y<1073741824):(anc 1 (i5 x y 1)).H 511:=bhm (azs x y hx hy)
theorem bhl {z:Ei} (h0:z.H 2004):(anc 2 z).H 511:=by
 have h1:=ac2 (m:=859) h0 (by decide);have h2:=ac2 (m:=368) h1 (by decide);exact h2.mono (by decide)
theorem a1y (x y:Int) (hx:0≤x∧x<1073741824) (hy:0≤y∧y<1073741824):(anc 2 (i5 x y 2)).H 511:=bhl (azr x y hx hy)
theorem bhk {z:Ei} (h0:z.H 4887):(anc 3 z).H 511:=by
 have h1:=du (m:=271) h0 (by decide);exact h1.mono (by decide)
theorem a1x (x y:Int) (hx:0≤x∧x<1073741824) (hy:0≤y∧y<1073741824):(anc 3 (i5 x y 3)).H 511:=bhk (azq x y hx hy)
theorem bhj {z:Ei} (h0:z.H 13376):(anc 4 z).H 511:=by
 have h1:=ac2 (m:=5733) h0 (by decide);have h2:=du (m:=318) h1 (by decide);exact h2.mono (by decide)
theorem a1w (x y:Int) (hx:0≤x∧x<1073741824) (hy:0≤y∧y<1073741824):(anc 4 (i5 x y 4)).H 511:=bhj (azp x y hx hy)
theorem bhi {z:Ei} (h0:z.H 37163):(anc 5 z).H 511:=by
 have h1:=ac2 (m:=15927) h0 (by decide);have h2:=ac2 (m:=6826) h1 (by decide);have h3:=du (m:=379) h2 (by decide);exact h3.mono (by decide)
theorem a1v (x y:Int) (hx:0≤x∧x<1073741824) (hy:0≤y∧y<1073741824):(anc 5 (i5 x y 5)).H 511:=bhi (azo x y hx hy)
theorem bhh {z:Ei} (h0:z.H 92189):(anc 6 z).H 511:=by
 have h1:=du (m:=5107) h0 (by decide);have h2:=du (m:=283) h1 (by decide);exact h2.mono (by decide)
theorem a1u (x y:Int) (hx:0≤x∧x<1073741824) (hy:0≤y∧y<1073741824):(anc 6 (i5 x y 6)).H 511:=bhh (azn x y hx hy)
theorem bhg {z:Ei} (h0:z.H 243699):(anc 7 z).H 511:=by
 have h1:=ac2 (m:=104443) h0 (by decide);have h2:=du (m:=5786) h1 (by decide);have h3:=du (m:=321) h2 (by decide);exact h3.mono (by decide)
theorem a1t (x y:Int) (hx:0≤x∧x<1073741824) (hy:0≤y∧y<1073741824):(anc 7 (i5 x y 7)).H 511:=bhg (azm x y hx hy)
theorem bhf {z:Ei} (h0:z.H 688202):(anc 8 z).H 511:=by
 have h1:=ac2 (m:=294944) h0 (by decide);have h2:=ac2 (m:=126405) h1 (by decide);have h3:=du (m:=7002) h2 (by decide);have h4:=du (m:=388) h3 (by decide);exact h4.mono (by decide)
theorem a1s (x y:Int) (hx:0≤x∧x<1073741824) (hy:0≤y∧y<1073741824):(anc 8 (i5 x y 8)).H 511:=bhf (azl x y hx hy)
theorem bhe {z:Ei} (h0:z.H 1735123):(anc 9 z).H 511:=by
 have h1:=du (m:=96115) h0 (by decide);have h2:=du (m:=5325) h1 (by decide);have h3:=du (m:=295) h2 (by decide);exact h3.mono (by decide)
theorem a1r (x y:Int) (hx:0≤x∧x<1073741824) (hy:0≤y∧y<1073741824):(anc 9 (i5 x y 9)).H 511:=bhe (azk x y hx hy)
theorem bdv {z:Ei} (h0:z.H 4429444):(anc 10 z).H 511:=by
 have h1:=ac2 (m:=1898333) h0 (by decide);have h2:=du (m:=105156) h1 (by decide);have h3:=du (m:=5825) h2 (by decide);have h4:=du (m:=323) h3 (by decide);exact h4.mono (by decide)
theorem ayf (x y:Int) (hx:0≤x∧x<1073741824) (hy:0≤y∧y<1073741824):(anc 10 (i5 x y 10)).H 511:=bdv (awo x y hx hy)
theorem bdu {z:Ei} (h0:z.H 12717090):(anc 11 z).H 511:=by
 have h1:=ac2 (m:=5450182) h0 (by decide);have h2:=ac2 (m:=2335792) h1 (by decide);have h3:=du (m:=129388) h2 (by decide);have h4:=du (m:=7168) h3 (by decide);have h5:=du (m:=398) h4 (by decide);exact h5.mono (by decide)
theorem aye (x y:Int) (hx:0≤x∧x<1073741824) (hy:0≤y∧y<1073741824):(anc 11 (i5 x y 11)).H 511:=bdu (awn x y hx hy)
theorem bdt {z:Ei} (h0:z.H 32579347):(anc 12 z).H 511:=by
 have h1:=du (m:=1804687) h0 (by decide);have h2:=du (m:=99969) h1 (by decide);have h3:=du (m:=5538) h2 (by decide);have h4:=du (m:=307) h3 (by decide);exact h4.mono (by decide)
theorem ayd (x y:Int) (hx:0≤x∧x<1073741824) (hy:0≤y∧y<1073741824):(anc 12 (i5 x y 12)).H 511:=bdt (awm x y hx hy)
theorem bf5 (x y:Int) (r:Nat) (hx:0≤x∧x<1073741824) (hy:0≤y∧y<1073741824) (hr:r≤12):(i5 x y r).H 32579347:=by
 rcases (show r=0∨r=1∨r=2∨r=3∨r=4∨r=5∨r=6∨r=7∨r=8∨r=9∨r=10∨r=11∨r=12 by omega) with rfl | rfl | rfl | rfl | rfl | rfl | rfl | rfl | rfl | rfl | rfl | rfl | rfl
 ·exact (azt x y hx hy).mono (by decide)
 ·exact (azs x y hx hy).mono (by decide)
 ·exact (azr x y hx hy).mono (by decide)
 ·exact (azq x y hx hy).mono (by decide)
 ·exact (azp x y hx hy).mono (by decide)
 ·exact (azo x y hx hy).mono (by decide)
 ·exact (azn x y hx hy).mono (by decide)
 ·exact (azm x y hx hy).mono (by decide)
 ·exact (azl x y hx hy).mono (by decide)
 ·exact (azk x y hx hy).mono (by decide)
 ·exact (awo x y hx hy).mono (by decide)
 ·exact (awn x y hx hy).mono (by decide)
 ·exact (awm x y hx hy).mono (by decide)
theorem a48 (x y:Int) (r:Nat) (hx:0≤x∧x<1073741824) (hy:0≤y∧y<1073741824) (hr:r≤12):(anc r (i5 x y r)).H 511:=by
 rcases (show r=0∨r=1∨r=2∨r=3∨r=4∨r=5∨r=6∨r=7∨r=8∨r=9∨r=10∨r=11∨r=12 by omega) with rfl | rfl | rfl | rfl | rfl | rfl | rfl | rfl | rfl | rfl | rfl | rfl | rfl
 ·exact a10 x y hx hy
 ·exact a1z x y hx hy
 ·exact a1y x y hx hy
 ·exact a1x x y hx hy
 ·exact a1w x y hx hy
 ·exact a1v x y hx hy
 ·exact a1u x y hx hy
 ·exact a1t x y hx hy
 ·exact a1s x y hx hy
 ·exact a1r x y hx hy
 ·exact ayf x y hx hy
 ·exact aye x y hx hy
 ·exact ayd x y hx hy
theorem xi (x y:Int) (r:Nat) (hx:0≤x∧x<1073741824) (hy:0≤y∧y<1073741824) (hr:r≤12):okc r (i5 x y r):=by
 have h1:=bf5 x y r hx hy hr;have h2:=a48 x y r hx hy hr;unfold okc;unfold Ei.In;unfold Ei.H at h1 h2;omega

def ah0:Mk P0 f171:={ x:=_ }
theorem alq:d5 171 2 ah0:=c8 func171
def acn:PC:=
  (.seq (.reg [p_a 2 (.box (.t 0)),p_a 3 (.box (.t 1)),p_a 4 (.new [(.r (.v (.int .i64 0))),(.r (.v (.int .u64 0)))])])
 (.seq (.reg [p_s 8 (.fa 1 (.t 2)),p_s 9 (.ld none (.t 8)),p_s 10 (.fa 1 (.t 3)),p_s 11 (.ld none (.t 10)),p_s 12 (.carry false (.t 9) (.t 11) (.c (.r (.v (.int .u64 0))))),
 p_m 7 12,p_s 13 (.ext (.t 7) 0),p_s 14 (.ext (.t 7) 1),p_m 5 13,p_m 6 14])
 (.seq (.reg [p_s 15 (.fa 0 (.t 2)),p_s 16 (.ld none (.t 15)),p_s 17 (.fa 0 (.t 3)),p_s 18 (.ld none (.t 17)),p_s 19 (.bin .add (.t 16) (.t 18)),p_m 20 6,p_s 21 (.conv .i64 (.t 20)),
 p_s 22 (.bin .add (.t 19) (.t 21)),p_m 23 5,p_s 24 (.build [(.r (.v (.int .i64 0))),(.r (.v (.int .u64 0)))] [(0,1,(.t 22)),(1,1,(.t 23))]),⟨none,none,0,.act (.st 2 (.t 4) (.t 24))⟩])
 .ret)))
theorem agu:Fun P0 170 2 [(4,false,some (246,(some 2)))] acn:=ae3 func170 rfl (by decide) (by kernel_rfl) (by decide) rfl (by kernel_rfl) (by kernel_rfl) (by decide)
def aay:PC:=
  (.seq (.reg [p_a 2 (.box (.t 0)),p_a 3 (.box (.t 1)),p_a 4 (.new [(.r (.v (.int .i64 0))),(.r (.v (.int .u64 0)))])])
 (.seq (.reg [p_s 8 (.fa 1 (.t 2)),p_s 9 (.ld none (.t 8)),p_s 10 (.fa 1 (.t 3)),p_s 11 (.ld none (.t 10)),p_s 12 (.carry true (.t 9) (.t 11) (.c (.r (.v (.int .u64 0))))),
 p_m 7 12,p_s 13 (.ext (.t 7) 0),p_s 14 (.ext (.t 7) 1),p_m 5 13,p_m 6 14])
 (.seq (.reg [p_s 15 (.fa 0 (.t 2)),p_s 16 (.ld none (.t 15)),p_s 17 (.fa 0 (.t 3)),p_s 18 (.ld none (.t 17)),p_s 19 (.bin .sub (.t 16) (.t 18)),p_m 20 6,p_s 21 (.conv .i64 (.t 20)),
 p_s 22 (.bin .sub (.t 19) (.t 21)),p_m 23 5,p_s 24 (.build [(.r (.v (.int .i64 0))),(.r (.v (.int .u64 0)))] [(0,1,(.t 22)),(1,1,(.t 23))]),⟨none,none,0,.act (.st 2 (.t 4) (.t 24))⟩])
 .ret)))
theorem afk:Fun P0 172 2 [(4,false,some (246,(some 2)))] aay:=ae3 func172 rfl (by decide) (by kernel_rfl) (by decide) rfl (by kernel_rfl) (by kernel_rfl) (by decide)
def aax:Mk P0 f173:={ x:=_ }
theorem afj:d5 173 1 aax:=c8 func173
def ajr:Mk P0 f174:={ x:=_ }
theorem am7:d5 174 4 ajr:=c8 func174
def alt:Mk P0 f121:={ x:=_ }
theorem apj:d5 121 2 alt:=c8 func121
def wid (x:Int):AV:=.r (.agg [.v (.int .i64 (IntKind.i64.wrap (x/18446744073709551616))),.v (.int .u64 (x%18446744073709551616))])
theorem avh {x a b:Int} (h1:a=IntKind.i64.wrap (x/18446744073709551616)) (h2:b=x%18446744073709551616):AV.r (.agg [.v (.int .i64 a),.v (.int .u64 b)])=wid x:=by rw [h1,h2]; rfl
theorem ayr (a b:Int):a8 P0 170 [wid a,wid b] [] (wid (a+b)) []:=by
 refine agu rfl (by decide) ?_
 push_cast [acn,wid,zaa]
 refine ⟨by omega,avh ?_ ?_⟩
 ·simp only [IntKind.wrap_i64]; omega
 ·omega
theorem a65 (a b:Int):a8 P0 172 [wid a,wid b] [] (wid (a-b)) []:=by
 refine afk rfl (by decide) ?_
 push_cast [aay,wid,zaa]
 refine ⟨by omega,avh ?_ ?_⟩
 ·simp only [IntKind.wrap_i64]; omega
 ·omega
theorem avd (a:Int) (h:-170141183460469231731687303715884105728≤a∧a<170141183460469231731687303715884105728):a8 P0 173 [wid a] [] (sm a) []:=by
 refine afj rfl (by decide) ?_
 push_cast [aax,wid,zaa]
 rw [IntKind.wrap_i64,IntKind.wrap_i64];have hn:in64 a→(a%18446744073709551616+9223372036854775808)%18446744073709551616-9223372036854775808=a:=by unfold in64; omega
 have hh:(a/18446744073709551616+9223372036854775808)%18446744073709551616-9223372036854775808=a/18446744073709551616:=by omega
 rw [hh];have h0:a/18446744073709551616=0→(a%18446744073709551616+9223372036854775808)%18446744073709551616-9223372036854775808≥0→in64 a:=by unfold in64; omega
 have h1:a/18446744073709551616=-1→(a%18446744073709551616+9223372036854775808)%18446744073709551616-9223372036854775808<0→in64 a:=by unfold in64; omega
 have h2:in64 a→(a/18446744073709551616=0∧(a%18446744073709551616+9223372036854775808)%18446744073709551616-9223372036854775808≥0)∨(a/18446744073709551616=-1∧(a%18446744073709551616+9223372036854775808)%18446744073709551616-9223372036854775808<0):=by unfold in64; omega
 generalize a/18446744073709551616=q at *;generalize (a%18446744073709551616+9223372036854775808)%18446744073709551616-9223372036854775808=n at *;refine ⟨by simp +contextual,by simp +contextual; omega,c7 (fun hc=>?_) (fun hc=>?_)⟩
 ·push_cast
  have hy:in64 a:=by
   by_cases c1:n<0
   ·by_cases c2:q=-1
    ·exact h1 c2 c1
    ·simp [c1,c2] at hc; omega
   ·by_cases c2:q=0
    ·exact h0 c2 (by omega)
    ·simp [c1,c2] at hc
  exact rc (hn hy) hy
 ·push_cast
  refine aik fun hy=>?_;rcases h2 hy with ⟨e1,e2⟩ | ⟨e1,e2⟩
  ·simp [e1,e2] at hc
  ·simp [e1,e2] at hc
theorem amk {a:Int} (ha:in64 a):IntKind.u64.wrap a=if a<0 then a+18446744073709551616 else a:=by
 unfold in64 at ha;rw [IntKind.wrap_u64];split<;>omega
theorem ah8 (a b:Int) (ha:in64 a) (hb:in64 b):a8 P0 171 [int .i64 a,int .i64 b] [] (wid (a*b)) []:=by
 refine alq rfl (by decide) ?_
 push_cast [ah0,zaa]
 have ha':=ha;have hb':=hb;unfold in64 at ha' hb'
 have hu:∀x:Int,in64 x→((IntKind.u64.wrap x).toNat:Int)=if x<0 then x+18446744073709551616 else x:=fun x hx=>by
  rw [amk hx];unfold in64 at hx;split<;>omega
 have hu0:∀x:Int,in64 x→(IntKind.u64.wrap x).toNat<18446744073709551616:=fun x hx=>by
  rw [amk hx];unfold in64 at hx;split<;>omega
 refine b9 (as':=[int .u64 (IntKind.u64.wrap a).toNat,int .u64 (IntKind.u64.wrap b).toNat]) (by rw [hu a ha,hu b hb,amk ha,amk hb]) ?_;refine a5 (as0 _ _ (hu0 a ha) (hu0 b hb)) rfl trivial ?_
 push_cast
 have hp:((IntKind.u64.wrap a).toNat:Int)*((IntKind.u64.wrap b).toNat:Int)=a*b+(if a<0 then b*18446744073709551616 else 0)+(if b<0 then a*18446744073709551616 else 0)+(if a<0 then if b<0 then 340282366920938463463374607431768211456 else 0 else 0):=by
  rw [hu a ha,hu b hb];split<;>split<;>(try simp only [Int.add_mul,zcg])<;>omega
 rw [hp];generalize a*b=m;refine c7 (fun h1=>?_) (fun h1=>?_)<;>push_cast<;>refine c7 (fun h2=>?_) (fun h2=>?_)<;>push_cast
 all_goals
  simp only [decide_eq_true_eq,decide_eq_false_iff_not] at h1 h2;simp only [h1,h2,if_true,if_false];refine avh ?_ ?_
  ·simp only [IntKind.wrap_i64]; omega
  ·omega
theorem ar9 (a b:Int):a8 P0 174 [int .i64 a,bl true,int .i64 b,bl true] [] (.tup [Ei.v ⟨a,b⟩,bl true]) []:=by
 refine am7 rfl (by decide) ?_
 push_cast [ajr,Ei.v,Ei.rv,zaa]
abbrev M63:Int:=9223372036854775807
theorem Ei.In.ok {z:Ei} (h:z.In M63):in64 z.a∧in64 z.b:=by unfold Ei.In M63 at h; unfold in64; omega
theorem bfr {x y:Ei} (hx:x.In 4611686018427387904) (hy:y.In 4611686018427387904):(-21267647932558653966460912964485513216≤x.a*y.a∧x.a*y.a≤21267647932558653966460912964485513216)∧(-21267647932558653966460912964485513216≤x.a*y.b∧x.a*y.b≤21267647932558653966460912964485513216)∧(-21267647932558653966460912964485513216≤x.b*y.a∧x.b*y.a≤21267647932558653966460912964485513216)∧(-21267647932558653966460912964485513216≤x.b*y.b∧x.b*y.b≤21267647932558653966460912964485513216):=
 ⟨gc hx.1 hy.1,gc hx.1 hy.2,gc hx.2 hy.1,gc hx.2 hy.2⟩
theorem ae4 (x y:Ei) (hx:x.In 4611686018427387904) (hy:y.In 4611686018427387904) (hz:(x.mul y).In M63):a8 P0 121 [x.v,y.v] [] (.tup [(x.mul y).v,bl true]) []:=by
 refine apj rfl (by decide) ?_;have hz1:=hz.ok.1;have hz2:=hz.ok.2;simp only [Ei.mul] at hz1 hz2
 push_cast [alt,Ei.v,Ei.rv,zaa]
 have hx1:in64 x.a∧in64 x.b:=by unfold Ei.In at hx; unfold in64; omega
 have hy1:in64 y.a∧in64 y.b:=by unfold Ei.In at hy; unfold in64; omega
 refine a5 (ah8 x.b y.b hx1.2 hy1.2) rfl trivial ?_
 push_cast [wid]
 refine d9 (ah8 x.a y.a hx1.1 hy1.1) rfl trivial ?_
 push_cast [wid]
 refine u6 (as':=[wid (x.a*y.a),wid (x.b*y.b)]) rfl ?_;refine d9 (a65 _ _) rfl trivial ?_
 push_cast [wid]
 refine u6 (as':=[wid (x.a*y.a-x.b*y.b)]) rfl ?_;refine d9 (avd _ ?_) rfl trivial ?_
 ·have:=bfr hx hy;omega
 push_cast [sm,hz1,if_pos]
 refine And.intro (by kernel_rfl) ?_;refine d9 (ah8 x.a y.b hx1.1 hy1.2) rfl trivial ?_
 push_cast [wid]
 refine d9 (ah8 x.b y.a hx1.2 hy1.1) rfl trivial ?_
 push_cast [wid]
 refine And.intro (by kernel_rfl) ?_;refine u6 (as':=[wid (x.a*y.b),wid (x.b*y.a)]) rfl ?_;refine d9 (ayr _ _) rfl trivial ?_
 push_cast [wid]
 refine And.intro (by kernel_rfl) ?_;refine u6 (as':=[wid (x.a*y.b+x.b*y.a),wid (x.b*y.b)]) rfl ?_;refine d9 (ayr _ _) rfl trivial ?_
 push_cast [wid]
 refine u6 (as':=[wid (x.a*y.b+x.b*y.a+x.b*y.b)]) rfl ?_;refine d9 (avd _ ?_) rfl trivial ?_
 ·have:=bfr hx hy;omega
 push_cast [sm,hz2,if_pos]
 refine And.intro (by kernel_rfl) ?_;refine a5 (ar9 _ _) rfl trivial ?_
 push_cast [Ei.v,Ei.rv,Ei.mul]

def abq:Mk P0 f175:={ x:=_ }
theorem aco:d5 175 3 abq:=c8 func175
def alu:Mk P0 f122:={ x:=_ }
theorem apk:d5 122 2 alu:=c8 func122
def alr:Mk P0 f234:={ x:=_ }
theorem api:d5 234 2 alr:=c8 func234
def ajt:Mk P0 f195:={ x:=_ }
theorem am9:d5 195 1 ajt:=c8 func195
def ajs:Mk P0 f123:={ x:=_ }
theorem am8:d5 123 1 ajs:=c8 func123
def aju:Mk P0 f125:={ x:=_ }
theorem ana:d5 125 1 aju:=c8 func125
def ajo:Mk P0 f178:={ x:=_ }
theorem am4:d5 178 2 ajo:=c8 func178
def ah1:Mk P0 f197:={ x:=_ }
theorem als:d5 197 2 ah1:=c8 func197
theorem ail {x:Int} (h:in64 x):sm x=.tup [int .i64 x,bl true]:=by simp [sm,h]
theorem a50 (x y:Ei) (hx:x.In M63) (hy:y.In M63) (hz:(x.add y).In M63):a8 P0 122 [x.v,y.v] [] (.tup [(x.add y).v,bl true]) []:=by
 have hs:a8 P0 175 [x.v,y.v,.fn (.func 176) []] [] (.tup [(x.add y).v,bl true]) []:=by
  refine aco rfl (by decide) ?_
  push_cast [abq,Ei.v,Ei.rv,zaa]
  refine ⟨by kernel_rfl,?_⟩;refine a5 (a22 _ _ hx.ok.1 hy.ok.1) rfl trivial ?_;rw [ail (show in64 (x.a+y.a) from hz.ok.1)]
  push_cast
  refine ⟨by kernel_rfl,?_⟩;refine a5 (a22 _ _ hx.ok.2 hy.ok.2) rfl trivial ?_;rw [ail (show in64 (x.b+y.b) from hz.ok.2)]
  push_cast
  refine a5 (ar9 _ _) rfl trivial ?_
  push_cast [Ei.v,Ei.rv,Ei.add]
 refine apk rfl (by decide) ?_
 push_cast [alu,Ei.v,Ei.rv,zaa]
 refine b9 (as':=[x.v,y.v,.fn (.func 176) []]) rfl ?_;refine a5 hs rfl trivial ?_
 push_cast [Ei.v,Ei.rv,Ei.add]
theorem bg1 (x y:Ei) (hx:x.In M63) (hy:y.In M63) (hz:(x.sub y).In M63):a8 P0 234 [x.v,y.v] [] (.tup [(x.sub y).v,bl true]) []:=by
 have hs:a8 P0 175 [x.v,y.v,.fn (.func 246) []] [] (.tup [(x.sub y).v,bl true]) []:=by
  refine aco rfl (by decide) ?_
  push_cast [abq,Ei.v,Ei.rv,zaa]
  refine ⟨by kernel_rfl,?_⟩;refine a5 (a01 _ _ hx.ok.1 hy.ok.1) rfl trivial ?_;rw [ail (show in64 (x.a-y.a) from hz.ok.1)]
  push_cast
  refine ⟨by kernel_rfl,?_⟩;refine a5 (a01 _ _ hx.ok.2 hy.ok.2) rfl trivial ?_;rw [ail (show in64 (x.b-y.b) from hz.ok.2)]
  push_cast
  refine a5 (ar9 _ _) rfl trivial ?_
  push_cast [Ei.v,Ei.rv,Ei.sub]
 refine api rfl (by decide) ?_
 push_cast [alr,Ei.v,Ei.rv,zaa]
 refine b9 (as':=[x.v,y.v,.fn (.func 246) []]) rfl ?_;refine a5 hs rfl trivial ?_
 push_cast [Ei.v,Ei.rv,Ei.sub]
theorem a0b (x:Ei) (hx:x.In 4611686018427387903):a8 P0 195 [x.v] [] (.tup [x.conj.v,bl true]) []:=by
 refine am9 rfl (by decide) ?_;have h:=hx;unfold Ei.In at h
 push_cast [ajt,Ei.v,Ei.rv,zaa]
 refine a5 (a22 _ _ (by unfold in64; omega) (by unfold in64; omega)) rfl trivial ?_;rw [ail (by unfold in64; omega)]
 push_cast
 refine a5 (bir _ (by unfold in64; omega)) rfl trivial ?_;rw [ail (by unfold in64; omega)]
 push_cast
 refine a5 (ar9 _ _) rfl trivial ?_
 push_cast [Ei.v,Ei.rv,Ei.conj]
theorem bh5:uni 0=⟨1,0⟩:=rfl
theorem bh4:uni 1=⟨0,1⟩:=rfl
theorem bh3:uni 2=⟨-1,1⟩:=rfl
theorem bh2:uni 3=⟨-1,0⟩:=rfl
theorem bh1:uni 4=⟨0,-1⟩:=rfl
theorem bh0:uni 5=⟨1,-1⟩:=rfl
theorem az9 (k:Int) (hk:0≤k∧k<6):a8 P0 123 [int .i64 k] [] (uni k.toNat).v []:=by
 refine am8 rfl (by decide) ?_
 have hm:(IntKind.i64.wrap (Int.tmod k 6+6)).tmod 6=k:=by
  rw [zci hk.1,a7 (by omega),zci (by omega)]; omega
 simp only [ajs,hm,Ei.v,Ei.rv,push_cast,↓reduceIte,reduceCtorEq,zB,zE,zA,zS,zL,zD,zM];refine ⟨by decide,by decide,hk,by omega,?_⟩;rcases (show k=0∨k=1∨k=2∨k=3∨k=4∨k=5 by omega) with rfl | rfl | rfl | rfl | rfl | rfl
 all_goals
  simp only [Int.reduceToNat,Nat.zero_mul,Nat.add_zero,zcq,bh5,bh4,bh3,bh2,bh1,bh0,push_cast,↓reduceIte,reduceCtorEq,zB,zE,zA,zS,zL,zD,zM]
  first | done | trace_state
theorem aa5 (a m:Int) (ha:in64 a) (hm:0≤m∧m≤4611686018427387904):a8 P0 178 [int .i64 a,int .i64 m] [] (bl (decide (-m≤a∧a≤m))) []:=by
 refine am4 rfl (by decide) ?_
 push_cast [ajo,zaa]
 rw [show IntKind.i64.wrap (0-m)=-m by rw [a7 (by omega)]; omega];refine la ?_;by_cases h1:-m≤a<;>by_cases h2:a≤m<;>by_cases h3:a=-9223372036854775808<;>simp [h1,h2,h3]
 all_goals omega
theorem ate (k:Int) (hk:0≤k∧k≤12):a8 P0 125 [int .i64 k] [] (.tup [(g7 k.toNat).v,bl true]) []:=by
 refine ana rfl (by decide) ?_;have c1:decide (k<0)=false:=by simp; omega
 have c2:decide (k>20)=false:=by simp; omega
 push_cast [aju,zaa,c1,c2]
 refine run_loop [(14,false),(15,false),(2,false),(3,false),(4,false),(5,false)] (fun vs pos los=>∃i:Int,0≤i∧i≤k∧vs=[int .i64 k,int .i64 i,.ptr 2000000 0 0,bl false,.ptr 2000001 0 0,bl true]∧pos=[]∧los=[.box [int .i64 0,int .i64 0],.box [int .i64 (g7 i.toNat).a,int .i64 (g7 i.toNat).b]])
  (fun vs _ _=>match vs with | [_,.r (.v (.int _ j)),_,_,_,_]=>(k-j).toNat | _=>0) rfl ?_ ?_
 ·push_cast
  exact ⟨0,by omega,by omega,rfl,rfl⟩
 ·rintro vs pos los ⟨i,i0,ik,rfl,rfl,rfl⟩
  push_cast
  refine c7 (fun h=>?_) (fun h=>?_)
  ·simp only [decide_eq_true_eq] at h
   push_cast
   have h1:=abw i.toNat (by omega);have h2:=abw (i.toNat+1) (by omega);refine b9 (as':=[(g7 i.toNat).v,fv.v]) rfl ?_;refine a5 (ae4 _ _ (h1.mono (by decide)) (by unfold Ei.In; decide) (h2.mono (by decide))) rfl trivial ?_
   push_cast [Ei.v,Ei.rv]
   rw [show IntKind.i64.wrap (i+1)=i+1 from a7 (by omega)];refine ⟨⟨i+1,by omega,by omega,rfl,?_⟩,by omega⟩;rw [show (i+1).toNat=i.toNat+1 by omega]
   rfl
  ·simp only [decide_eq_false_iff_not] at h;have:i=k:=by omega
   subst this
   push_cast [Ei.v,Ei.rv]

def pkN (d a b:Int) (i:Nat):Int×Ei:=(ab9.take i).foldl (pk d a b) (0,⟨0,0⟩)
theorem awa (d a b:Int) (i:Nat) (z:Ei) (h:ab9[i]?=some z):pkN d a b (i+1)=pk d a b (pkN d a b i) z:=by
 unfold pkN;rw [List.take_add_one,h];simp
theorem bcn {d a b:Int} (ha:0≤a∧a<d) (hb:0≤b∧b<d):(pkN d a b 3).2=qn d a b:=ayg ha hb
theorem a4r (d a b:Int):∀i,(0≤(pkN d a b i).2.a∧(pkN d a b i).2.a≤1)∧(0≤(pkN d a b i).2.b∧(pkN d a b i).2.b≤1)
 | 0=>by simp [pkN]
 | i+1=>by
  have ih:=a4r d a b i;rcases h:ab9[i]? with _ | z
  ·have:pkN d a b (i+1)=pkN d a b i:=by unfold pkN; rw [List.take_add_one,h]; simp
   rw [this]; exact ih
  ·rw [awa d a b i z h];unfold pk;split
   ·have:z∈ab9:=List.mem_of_getElem? h;simp [ab9] at this;rcases this with rfl | rfl | rfl<;>simp
   ·exact ih
theorem a52 {a d n:Int} (h:-n≤a∧a≤n) (hd:1≤d):-n≤a/d∧a/d≤n:=by
 have h1:=zct a d;have h5:=zby a (show 0<d by omega);have h6:=zbz a (show d≠0 by omega);generalize a/d=q at *;generalize a%d=r at *;constructor
 ·rcases zcf q 0 with hq | hq
  ·have:d*(q+1)≤1*(q+1):=Int.mul_le_mul_of_nonpos_right (by omega) (by omega);rw [zcg] at this;omega
  ·omega
 ·rcases zcf q 0 with hq | hq
  ·omega
  ·have:1*q≤d*q:=zcu (by omega) hq;omega
theorem axj (u:Ei) (d:Int) (hu:u.In 1152921504606846976) (hd:1≤d∧d≤1125899906842624):a8 P0 197 [u.v,int .i64 d] [] (.tup [(u.round d).v,bl true]) []:=by
 refine als rfl (by decide) ?_;have hu':=hu;unfold Ei.In at hu';have c1:decide (d<1)=false:=by simp; omega
 have c2:decide (d>1125899906842624)=false:=by simp; omega
 have ia:in64 u.a:=by unfold in64; omega
 have ib:in64 u.b:=by unfold in64; omega
 have ed:in64 d:=by unfold in64; omega
 push_cast [ah1,Ei.v,Ei.rv,zaa,c1,c2]
 refine a5 (aa5 _ _ ia (by decide)) rfl trivial ?_;rw [show decide (-1152921504606846976≤u.a∧u.a≤1152921504606846976)=true from decide_eq_true hu'.1]
 push_cast
 refine a5 (aa5 _ _ ib (by decide)) rfl trivial ?_;rw [show decide (-1152921504606846976≤u.b∧u.b≤1152921504606846976)=true from decide_eq_true hu'.2]
 push_cast
 refine a5 (qd _ _ ia ed) rfl trivial ?_;have hd0:0<d:=by omega
 push_cast [hd0,if_true]
 refine a5 (qd _ _ ib ed) rfl trivial ?_
 push_cast [hd0,if_true]
 have ha:0≤u.a%d∧u.a%d<d:=⟨zbz _ (by omega),zby _ hd0⟩
 have hb:0≤u.b%d∧u.b%d<d:=⟨zbz _ (by omega),zby _ hd0⟩
 have hqa:-1152921504606846976≤u.a/d∧u.a/d≤1152921504606846976:=a52 hu'.1 hd.1;have hqb:-1152921504606846976≤u.b/d∧u.b/d≤1152921504606846976:=a52 hu'.2 hd.1;generalize hA:u.a%d=a at *;generalize hB:u.b%d=b at *;generalize hQa:u.a/d=qa at *;generalize hQb:u.b/d=qb at *;refine ⟨by simp,?_⟩
 refine run_loop [(57,false),(58,false),(59,false),(1,false),(4,false),(5,false),(6,false),(7,false),(9,false),(10,false),(12,false),(13,false)] (fun vs pos los=>∃i:Nat,i≤3∧vs=[.own 2000000 0 0 3,int .i64 3,int .i64 i,int .i64 d,.ptr 2000001 0 0,bl false,int .i64 qa,int .i64 a,int .i64 qb,int .i64 b,int .i64 (pkN d a b i).1,.ptr 2000002 0 0]∧pos=[] ∧
   los=[.row 2 (Ei.rv ⟨0,0⟩) true true (ab9.map Ei.rv),.box [int .i64 0,int .i64 0],.box [int .i64 (pkN d a b i).2.a,int .i64 (pkN d a b i).2.b]])
  (fun vs _ _=>match vs with | _::_ :: .r (.v (.int _ j))::_=>(3-j).toNat | _=>0) rfl ?_ ?_
 ·push_cast
  exact ⟨0,by omega,rfl,rfl⟩
 ·rintro vs pos los ⟨i,i3,rfl,rfl,rfl⟩
  push_cast
  refine c7 (fun h=>?_) (fun h=>?_)
  ·have hi:i=0∨i=1∨i=2:=by simp at h; omega
   obtain ⟨z,hz,hzz⟩:∃z,ab9[i]?=some z∧((z=⟨0,1⟩∨z=⟨1,0⟩∨z=⟨1,1⟩)):=by
    rcases hi with rfl | rfl | rfl
    ·exact ⟨_,rfl,by simp⟩
    ·exact ⟨_,rfl,by simp⟩
    ·exact ⟨_,rfl,by simp⟩
   have hg:(List.map Ei.rv ab9).getD i (Ei.rv ⟨0,0⟩)=.agg [.v (.int .i64 z.a),.v (.int .i64 z.b)]:=by
    rw [List.getD_eq_getElem?_getD,List.getElem?_map,hz]; rfl
   have hn:(IntKind.i64.wrap (IntKind.i64.wrap (IntKind.i64.wrap (z.a*z.a)+IntKind.i64.wrap (z.a*z.b))+IntKind.i64.wrap (z.b*z.b)))=z.a*z.a+z.a*z.b+z.b*z.b:=by
    rcases hzz with rfl | rfl | rfl<;>decide
   have hf:IntKind.i64.wrap (IntKind.i64.wrap (IntKind.i64.wrap (d*(z.a*z.a+z.a*z.b+z.b*z.b))-IntKind.i64.wrap (z.a*IntKind.i64.wrap (IntKind.i64.wrap (2*a)+b)))-IntKind.i64.wrap (z.b*IntKind.i64.wrap (a+IntKind.i64.wrap (2*b))))=fr d a b z:=by
    rw [show IntKind.i64.wrap (2*a)=2*a from a7 (by omega),show IntKind.i64.wrap (2*b)=2*b from a7 (by omega),show IntKind.i64.wrap (2*a+b)=2*a+b from a7 (by omega),show IntKind.i64.wrap (a+2*b)=a+2*b from a7 (by omega)];rcases hzz with rfl | rfl | rfl<;>simp only [fr,Int.zero_mul,Int.mul_zero,Int.one_mul,Int.mul_one,Int.add_zero,Int.zero_add,IntKind.wrap_i64]<;>omega
   have hs:=awa d a b i z hz
   push_cast [zcb,zcq,hg,hn,hf]
   refine ⟨by omega,?_⟩;refine c7 (fun h'=>?_) (fun h'=>?_)
   ·simp only [decide_eq_true_eq] at h'
    push_cast
    refine ⟨by kernel_rfl,?_⟩;rw [show IntKind.i64.wrap (i+1)=i+1 from a7 (by omega)];refine ⟨⟨i+1,by omega,?_,?_⟩,by omega⟩
    ·rw [hs,pk,if_pos h']<;>rfl
    ·rw [hs,pk,if_pos h']<;>rfl
   ·simp only [decide_eq_false_iff_not] at h'
    push_cast
    rw [show IntKind.i64.wrap (i+1)=i+1 from a7 (by omega)];refine ⟨⟨i+1,by omega,?_,?_⟩,by omega⟩
    ·rw [hs,pk,if_neg h']<;>rfl
    ·rw [hs,pk,if_neg h']<;>rfl
  ·have:i=3:=by simp at h; omega
   subst this
   push_cast
   have hN:=a4r d a b 3;rw [a7 (by omega),a7 (by omega),bcn ha hb,← hQa,← hQb,← hA,← hB]
   rfl

def ahn:Mk P0 f177:={ x:=_ }
theorem akq:d5 177 1 ahn:=c8 func177
def anp:Mk P0 f160:={ x:=_ }
theorem aqn:d5 160 2 anp:=c8 func160
def ahp:Mk P0 f194:={ x:=_ }
theorem akt:d5 194 2 ahp:=c8 func194
def ajn:Mk P0 f161:={ x:=_ }
theorem am3:d5 161 3 ajn:=c8 func161
def ahm:Mk P0 f124:={ x:=_ }
theorem akp:d5 124 3 ahm:=c8 func124
def ajm:Mk P0 f179:={ x:=_ }
theorem am2:d5 179 1 ajm:=c8 func179
def vy:Mk P0 f126:={ x:=_ }
theorem ac3:d5 126 2 vy:=c8 func126
def aks:Mk P0 f73:={ x:=_ }
theorem aow:d5 73 2 aks:=c8 func73
theorem p2 (n:Nat) (h:n≤36):1≤(2:Int)^n∧(2:Int)^n≤68719476736:=by
 have h1:2^n≤2^36:=zck (by decide) h;have h2:1≤2^n:=Nat.one_le_two_pow;have h3:((2^n:Nat):Int)=(2:Int)^n:=by simp
 omega
theorem p7 (n:Nat) (h:n≤12):1≤(7:Int)^n∧(7:Int)^n≤13841287201:=by
 have h1:7^n≤7^12:=zck (by decide) h;have h2:1≤7^n:=Nat.one_le_pow _ _ (by decide);have h3:((7^n:Nat):Int)=(7:Int)^n:=by simp
 omega
theorem a7k (z:Int) (h0:0≤z) (h1:z≤36):IntKind.i64.wrap (1*2^min (IntKind.u64.wrap z).toNat IntKind.i64.bits)=2^z.toNat:=by
 have hp:=p2 z.toNat (by omega);rw [IntKind.wrap_u64,show (z%18446744073709551616).toNat=z.toNat by omega,show min z.toNat IntKind.i64.bits=z.toNat from zcr (by simp [IntKind.bits]; omega),Int.one_mul,a7 (by omega)]
theorem bjn (z:Int) (h0:0≤z) (h1:z≤36):IntKind.i64.wrap (1*2^min z.toNat IntKind.i64.bits)=2^z.toNat:=by
 have hp:=p2 z.toNat (by omega);rw [show min z.toNat IntKind.i64.bits=z.toNat from zcr (by simp [IntKind.bits]; omega),Int.one_mul,a7 (by omega)]
theorem as5 (r:Int):a8 P0 177 [int .i64 r] [] (bl (decide (0≤r∧r≤12))) []:=by
 refine akq rfl (by decide) ?_
 push_cast [ahn,zaa]
 refine la ?_;simp
theorem ahr {x y:Ei} {n m:Int} (hx:x.In n) (hy:y.In m):(x.mul y).In (3*(n*m)):=by
 have h1:=gc hx.1 hy.1;have h2:=gc hx.1 hy.2;have h3:=gc hx.2 hy.1;have h4:=gc hx.2 hy.2;unfold Ei.In Ei.mul;dsimp only;generalize n*m=q at *;omega
theorem a0g {x:Ei} {n:Int} (hx:x.In n):x.conj.In (2*n):=by
 unfold Ei.In Ei.conj at *;dsimp only;omega
def inW (x y:Int):Prop:=(0≤x∧x<1073741824)∧(0≤y∧y<1073741824)
instance (x y:Int):Decidable (inW x y):=inferInstanceAs (Decidable (_∧_))
theorem bay {x y:Int} (h:inW x y):(ax x y).In 60000000000:=by
 unfold inW at h;unfold ax Ei.In;dsimp only;omega
theorem bhr {x y:Int} (h:inW x y) {k:Nat} (hk:k≤12):((ax x y).mul (g7 k).conj).In 43200000000000000:=
 (ahr (bay h) (a0g (abw k hk))).mono (by decide)
theorem bai (x y:Int):a8 P0 160 [int .i64 x,int .i64 y] [] (bl (decide (inW x y))) []:=by
 refine aqn rfl (by decide) ?_
 push_cast [anp,zaa]
 repeat refine And.intro (by simp +contextual) ?_
 refine la ?_;unfold inW;by_cases h1:0≤x<;>by_cases h2:x<1073741824<;>by_cases h3:0≤y<;>by_cases h4:y<1073741824<;>simp [h1,h2,h3,h4]
theorem bd3 (x y:Int) (h:inW x y):a8 P0 194 [int .i64 x,int .i64 y] [] (.tup [(ax x y).v,bl true]) []:=by
 refine akt rfl (by decide) ?_
 push_cast [ahp,zaa]
 refine a5 (bai x y) rfl trivial ?_;rw [decide_eq_true h]
 push_cast
 unfold inW at h;rw [show IntKind.i64.wrap (45*x)=45*x from a7 (by omega),show IntKind.i64.wrap (26*y)=26*y from a7 (by omega),show IntKind.i64.wrap (52*y)=52*y from a7 (by omega),show IntKind.i64.wrap (45*x-26*y)=45*x-26*y from a7 (by omega)];simp only [ax,Ei.v,Ei.rv]
theorem bf4 (x y r:Int) (h:inW x y) (hr:0≤r∧r≤12):a8 P0 161 [int .i64 x,int .i64 y,int .i64 r] [] (.tup [(i5 x y r.toNat).v,bl true]) []:=by
 refine am3 rfl (by decide) ?_
 push_cast [ajn,zaa]
 refine a5 (bd3 x y h) rfl trivial ?_
 push_cast [Ei.v,Ei.rv]
 refine a5 (as5 r) rfl trivial ?_;rw [decide_eq_true hr]
 push_cast
 have hk:(12-r).toNat=12-r.toNat:=by omega
 have hk2:(12-r).toNat≤12:=by omega
 rw [show IntKind.i64.wrap (12-r)=12-r from a7 (by omega)];refine a5 (ate (12-r) (by omega)) rfl trivial ?_;have hb:=abw (12-r).toNat hk2
 push_cast [Ei.v,Ei.rv]
 refine b9 (as':=[(g7 (12-r).toNat).v]) rfl ?_;refine a5 (a0b _ (hb.mono (by decide))) rfl trivial ?_
 push_cast [Ei.v,Ei.rv]
 have hp:=p7 (12-r).toNat hk2;rw [show IntKind.i64.wrap (12-r)=12-r from a7 (by omega)];have ht:=bah 7 (12-r) (by decide) (by unfold in64; omega);rw [if_neg (show ¬12-r<0 by omega),ail (by unfold in64; omega)] at ht;refine a5 ht rfl trivial ?_
 push_cast
 have hm:=bhr h hk2;refine b9 (as':=[(ax x y).v,(g7 (12-r).toNat).conj.v]) rfl ?_;refine a5 (ae4 _ _ ((bay h).mono (by decide)) ((a0g hb).mono (by decide)) (hm.mono (by decide))) rfl trivial ?_
 push_cast [Ei.v,Ei.rv]
 rw [show IntKind.i64.wrap (2340*7^(12-r).toNat)=2340*7^(12-r).toNat from a7 (by omega)];refine b9 (as':=[((ax x y).mul (g7 (12-r).toNat).conj).v,int .i64 (2340*7^(12-r).toNat)]) rfl ?_;refine a5 (axj _ _ (hm.mono (by decide)) (by omega)) rfl trivial ?_
 push_cast [Ei.v,Ei.rv,i5,hk]

def vv (i:Nat):Ei:=match i with | 0=>⟨1,1⟩ | 1=>⟨-1,2⟩ | 2=>⟨-2,1⟩ | 3=>⟨-1,-1⟩ | 4=>⟨1,-2⟩ | _=>⟨2,-1⟩
def hc (z:Ei) (r i:Nat):Ei:=(g7 (12-r)).mul ⟨3*z.a+(vv i).a,3*z.b+(vv i).b⟩
def hx (z:Ei) (r i:Nat):Int:=52*(hc z r i).a+26*(hc z r i).b
def hy (z:Ei) (r i:Nat):Int:=45*(hc z r i).b
def cx (z:Ei) (r:Nat):Int:=52*((g7 (12-r)).mul z).a+26*((g7 (12-r)).mul z).b
def cy (z:Ei) (r:Nat):Int:=45*((g7 (12-r)).mul z).b
def kx (r i:Nat):Int:=52*((g7 (12-r)).mul (vv i)).a+26*((g7 (12-r)).mul (vv i)).b
def ky (r i:Nat):Int:=45*((g7 (12-r)).mul (vv i)).b
theorem aw (z:Ei) (r i:Nat):hx z r i=3*cx z r+kx r i:=by
 simp only [hx,cx,kx,hc,Ei.mul,zcg,Int.mul_left_comm _ (3:Int)];omega
theorem au (z:Ei) (r i:Nat):hy z r i=3*cy z r+ky r i:=by
 simp only [hy,cy,ky,hc,Ei.mul,zcg,Int.mul_left_comm _ (3:Int)];omega
def crs (z:Ei) (r i j:Nat) (x y:Int):Int:=(kx r j-kx r i)*(y-hy z r i)-(ky r j-ky r i)*(x-hx z r i)
theorem awy (r i:Nat) (hr:r≤12) (hi:i<6):(-100000000≤kx r i∧kx r i≤100000000)∧(-100000000≤ky r i∧ky r i≤100000000):=by
 have:∀j:Fin 13,∀i:Fin 6,(-100000000≤kx j.val i.val∧kx j.val i.val≤100000000)∧(-100000000≤ky j.val i.val∧ky j.val i.val≤100000000):=by decide +kernel
 exact this ⟨r,by omega⟩ ⟨i,hi⟩
def sp (x y:Int) (z:Ei) (r:Nat):Prop:=
 ((-50000000≤cx z r-x∧cx z r-x≤50000000)∧(-50000000≤cy z r-y∧cy z r-y≤50000000)) ∧
 (∀i,i<6→0≤crs z r i ((i+1)%6) (3*x) (3*y)) ∧
 (∃i,i<6∧hx z r i≤3*x)∧(∃i,i<6∧3*x≤hx z r i)∧(∃i,i<6∧hy z r i≤3*y)∧(∃i,i<6∧3*y≤hy z r i)
theorem lt6 {i:Nat} (h:i<6):i=0∨i=1∨i=2∨i=3∨i=4∨i=5:=by omega
theorem bi4 (x y:Int):sp x y (i5 x y 0) 0:=by
 have h:=j9 ((ax x y).mul (g7 (12-0)).conj) (d:=2340*7^(12-0)) (by decide);have e:(g7 (12-0)).conj=⟨-128231,102960⟩:=by decide
 have ed:(2340*7^(12-0):Int)=32388612050340:=by decide
 have eb:g7 (12-0)=⟨-25271,-102960⟩:=by decide
 unfold i5;generalize Ei.round _ _=q at *;rw [e,ed] at h;have ex:cx q 0=52*(-25271*q.a - -102960*q.b)+26*(-25271*q.b + -102960*q.a + -102960*q.b):=by simp only [cx,eb,Ei.mul]
 have ey:cy q 0=45*(-25271*q.b + -102960*q.a + -102960*q.b):=by simp only [cy,eb,Ei.mul]
 have x0:kx 0 0=-1971138:=by decide
 have y0:ky 0 0=-10403595:=by decide
 have x1:kx 0 1=8030880:=by decide
 have y1:ky 0 1=-6907590:=by decide
 have x2:kx 0 2=10002018:=by decide
 have y2:ky 0 2=3496005:=by decide
 have x3:kx 0 3=1971138:=by decide
 have y3:ky 0 3=10403595:=by decide
 have x4:kx 0 4=-8030880:=by decide
 have y4:ky 0 4=6907590:=by decide
 have x5:kx 0 5=-10002018:=by decide
 have y5:ky 0 5=-3496005:=by decide
 unfold l7 at h;simp only [Ei.mul,ax] at h;have g:∀i,hx q 0 i=3*cx q 0+kx 0 i:=fun i=>aw q 0 i;have g':∀i,hy q 0 i=3*cy q 0+ky 0 i:=fun i=>au q 0 i;have h1:=h.1;have h2:=h.2.1;have h3:=h.2.2;refine ⟨by omega,fun i hi=>?_,⟨5,by decide,?_⟩,⟨2,by decide,?_⟩,⟨0,by decide,?_⟩,⟨3,by decide,?_⟩⟩
 ·rcases lt6 hi with rfl | rfl | rfl | rfl | rfl | rfl<;>simp only [crs,g,g',x0,x1,x2,x3,x4,x5,y0,y1,y2,y3,y4,y5]<;>omega
 ·simp only [g,x0,x1,x2,x3,x4,x5]; omega
 ·simp only [g,x0,x1,x2,x3,x4,x5]; omega
 ·simp only [g',y0,y1,y2,y3,y4,y5]; omega
 ·simp only [g',y0,y1,y2,y3,y4,y5]; omega
theorem bi3 (x y:Int):sp x y (i5 x y 1) 1:=by
 have h:=j9 ((ax x y).mul (g7 (12-1)).conj) (d:=2340*7^(12-1)) (by decide);have e:(g7 (12-1)).conj=⟨-51346,25807⟩:=by decide
 have ed:(2340*7^(12-1):Int)=4626944578620:=by decide
 have eb:g7 (12-1)=⟨-25539,-25807⟩:=by decide
 unfold i5;generalize Ei.round _ _=q at *;rw [e,ed] at h;have ex:cx q 1=52*(-25539*q.a - -25807*q.b)+26*(-25539*q.b + -25807*q.a + -25807*q.b):=by simp only [cx,eb,Ei.mul]
 have ey:cy q 1=45*(-25539*q.b + -25807*q.a + -25807*q.b):=by simp only [cy,eb,Ei.mul]
 have x0:kx 1 0=-1992042:=by decide
 have y0:ky 1 0=-3471885:=by decide
 have x1:kx 1 1=2012946:=by decide
 have y1:ky 1 1=-3459825:=by decide
 have x2:kx 1 2=4004988:=by decide
 have y2:ky 1 2=12060:=by decide
 have x3:kx 1 3=1992042:=by decide
 have y3:ky 1 3=3471885:=by decide
 have x4:kx 1 4=-2012946:=by decide
 have y4:ky 1 4=3459825:=by decide
 have x5:kx 1 5=-4004988:=by decide
 have y5:ky 1 5=-12060:=by decide
 unfold l7 at h;simp only [Ei.mul,ax] at h;have g:∀i,hx q 1 i=3*cx q 1+kx 1 i:=fun i=>aw q 1 i;have g':∀i,hy q 1 i=3*cy q 1+ky 1 i:=fun i=>au q 1 i;have h1:=h.1;have h2:=h.2.1;have h3:=h.2.2;refine ⟨by omega,fun i hi=>?_,⟨5,by decide,?_⟩,⟨2,by decide,?_⟩,⟨0,by decide,?_⟩,⟨3,by decide,?_⟩⟩
 ·rcases lt6 hi with rfl | rfl | rfl | rfl | rfl | rfl<;>simp only [crs,g,g',x0,x1,x2,x3,x4,x5,y0,y1,y2,y3,y4,y5]<;>omega
 ·simp only [g,x0,x1,x2,x3,x4,x5]; omega
 ·simp only [g,x0,x1,x2,x3,x4,x5]; omega
 ·simp only [g',y0,y1,y2,y3,y4,y5]; omega
 ·simp only [g',y0,y1,y2,y3,y4,y5]; omega
theorem bi2 (x y:Int):sp x y (i5 x y 2) 2:=by
 have h:=j9 ((ax x y).mul (g7 (12-2)).conj) (d:=2340*7^(12-2)) (by decide);have e:(g7 (12-2)).conj=⟨-18357,3725⟩:=by decide
 have ed:(2340*7^(12-2):Int)=660992082660:=by decide
 have eb:g7 (12-2)=⟨-14632,-3725⟩:=by decide
 unfold i5;generalize Ei.round _ _=q at *;rw [e,ed] at h;have ex:cx q 2=52*(-14632*q.a - -3725*q.b)+26*(-14632*q.b + -3725*q.a + -3725*q.b):=by simp only [cx,eb,Ei.mul]
 have ey:cy q 2=45*(-14632*q.b + -3725*q.a + -3725*q.b):=by simp only [cy,eb,Ei.mul]
 have x0:kx 2 0=-1141296:=by decide
 have y0:ky 2 0=-993690:=by decide
 have x1:kx 2 1=290550:=by decide
 have y1:ky 2 1=-1484505:=by decide
 have x2:kx 2 2=1431846:=by decide
 have y2:ky 2 2=-490815:=by decide
 have x3:kx 2 3=1141296:=by decide
 have y3:ky 2 3=993690:=by decide
 have x4:kx 2 4=-290550:=by decide
 have y4:ky 2 4=1484505:=by decide
 have x5:kx 2 5=-1431846:=by decide
 have y5:ky 2 5=490815:=by decide
 unfold l7 at h;simp only [Ei.mul,ax] at h;have g:∀i,hx q 2 i=3*cx q 2+kx 2 i:=fun i=>aw q 2 i;have g':∀i,hy q 2 i=3*cy q 2+ky 2 i:=fun i=>au q 2 i;have h1:=h.1;have h2:=h.2.1;have h3:=h.2.2;refine ⟨by omega,fun i hi=>?_,⟨5,by decide,?_⟩,⟨2,by decide,?_⟩,⟨1,by decide,?_⟩,⟨4,by decide,?_⟩⟩
 ·rcases lt6 hi with rfl | rfl | rfl | rfl | rfl | rfl<;>simp only [crs,g,g',x0,x1,x2,x3,x4,x5,y0,y1,y2,y3,y4,y5]<;>omega
 ·simp only [g,x0,x1,x2,x3,x4,x5]; omega
 ·simp only [g,x0,x1,x2,x3,x4,x5]; omega
 ·simp only [g',y0,y1,y2,y3,y4,y5]; omega
 ·simp only [g',y0,y1,y2,y3,y4,y5]; omega
theorem bi1 (x y:Int):sp x y (i5 x y 3) 3:=by
 have h:=j9 ((ax x y).mul (g7 (12-3)).conj) (d:=2340*7^(12-3)) (by decide);have e:(g7 (12-3)).conj=⟨-5777,-1026⟩:=by decide
 have ed:(2340*7^(12-3):Int)=94427440380:=by decide
 have eb:g7 (12-3)=⟨-6803,1026⟩:=by decide
 unfold i5;generalize Ei.round _ _=q at *;rw [e,ed] at h;have ex:cx q 3=52*(-6803*q.a-1026*q.b)+26*(-6803*q.b+1026*q.a+1026*q.b):=by simp only [cx,eb,Ei.mul]
 have ey:cy q 3=45*(-6803*q.b+1026*q.a+1026*q.b):=by simp only [cy,eb,Ei.mul]
 have x0:kx 3 0=-530634:=by decide
 have y0:ky 3 0=-213795:=by decide
 have x1:kx 3 1=-80028:=by decide
 have y1:ky 3 1=-566100:=by decide
 have x2:kx 3 2=450606:=by decide
 have y2:ky 3 2=-352305:=by decide
 have x3:kx 3 3=530634:=by decide
 have y3:ky 3 3=213795:=by decide
 have x4:kx 3 4=80028:=by decide
 have y4:ky 3 4=566100:=by decide
 have x5:kx 3 5=-450606:=by decide
 have y5:ky 3 5=352305:=by decide
 unfold l7 at h;simp only [Ei.mul,ax] at h;have g:∀i,hx q 3 i=3*cx q 3+kx 3 i:=fun i=>aw q 3 i;have g':∀i,hy q 3 i=3*cy q 3+ky 3 i:=fun i=>au q 3 i;have h1:=h.1;have h2:=h.2.1;have h3:=h.2.2;refine ⟨by omega,fun i hi=>?_,⟨0,by decide,?_⟩,⟨3,by decide,?_⟩,⟨1,by decide,?_⟩,⟨4,by decide,?_⟩⟩
 ·rcases lt6 hi with rfl | rfl | rfl | rfl | rfl | rfl<;>simp only [crs,g,g',x0,x1,x2,x3,x4,x5,y0,y1,y2,y3,y4,y5]<;>omega
 ·simp only [g,x0,x1,x2,x3,x4,x5]; omega
 ·simp only [g,x0,x1,x2,x3,x4,x5]; omega
 ·simp only [g',y0,y1,y2,y3,y4,y5]; omega
 ·simp only [g',y0,y1,y2,y3,y4,y5]; omega
theorem bi0 (x y:Int):sp x y (i5 x y 4) 4:=by
 have h:=j9 ((ax x y).mul (g7 (12-4)).conj) (d:=2340*7^(12-4)) (by decide);have e:(g7 (12-4)).conj=⟨-1504,-1265⟩:=by decide
 have ed:(2340*7^(12-4):Int)=13489634340:=by decide
 have eb:g7 (12-4)=⟨-2769,1265⟩:=by decide
 unfold i5;generalize Ei.round _ _=q at *;rw [e,ed] at h;have ex:cx q 4=52*(-2769*q.a-1265*q.b)+26*(-2769*q.b+1265*q.a+1265*q.b):=by simp only [cx,eb,Ei.mul]
 have ey:cy q 4=45*(-2769*q.b+1265*q.a+1265*q.b):=by simp only [cy,eb,Ei.mul]
 have x0:kx 4 0=-215982:=by decide
 have y0:ky 4 0=-10755:=by decide
 have x1:kx 4 1=-98670:=by decide
 have y1:ky 4 1=-192285:=by decide
 have x2:kx 4 2=117312:=by decide
 have y2:ky 4 2=-181530:=by decide
 have x3:kx 4 3=215982:=by decide
 have y3:ky 4 3=10755:=by decide
 have x4:kx 4 4=98670:=by decide
 have y4:ky 4 4=192285:=by decide
 have x5:kx 4 5=-117312:=by decide
 have y5:ky 4 5=181530:=by decide
 unfold l7 at h;simp only [Ei.mul,ax] at h;have g:∀i,hx q 4 i=3*cx q 4+kx 4 i:=fun i=>aw q 4 i;have g':∀i,hy q 4 i=3*cy q 4+ky 4 i:=fun i=>au q 4 i;have h1:=h.1;have h2:=h.2.1;have h3:=h.2.2;refine ⟨by omega,fun i hi=>?_,⟨0,by decide,?_⟩,⟨3,by decide,?_⟩,⟨1,by decide,?_⟩,⟨4,by decide,?_⟩⟩
 ·rcases lt6 hi with rfl | rfl | rfl | rfl | rfl | rfl<;>simp only [crs,g,g',x0,x1,x2,x3,x4,x5,y0,y1,y2,y3,y4,y5]<;>omega
 ·simp only [g,x0,x1,x2,x3,x4,x5]; omega
 ·simp only [g,x0,x1,x2,x3,x4,x5]; omega
 ·simp only [g',y0,y1,y2,y3,y4,y5]; omega
 ·simp only [g',y0,y1,y2,y3,y4,y5]; omega
theorem biz (x y:Int):sp x y (i5 x y 5) 5:=by
 have h:=j9 ((ax x y).mul (g7 (12-5)).conj) (d:=2340*7^(12-5)) (by decide);have e:(g7 (12-5)).conj=⟨-249,-757⟩:=by decide
 have ed:(2340*7^(12-5):Int)=1927090620:=by decide
 have eb:g7 (12-5)=⟨-1006,757⟩:=by decide
 unfold i5;generalize Ei.round _ _=q at *;rw [e,ed] at h;have ex:cx q 5=52*(-1006*q.a-757*q.b)+26*(-1006*q.b+757*q.a+757*q.b):=by simp only [cx,eb,Ei.mul]
 have ey:cy q 5=45*(-1006*q.b+757*q.a+757*q.b):=by simp only [cy,eb,Ei.mul]
 have x0:kx 5 0=-78468:=by decide
 have y0:ky 5 0=22860:=by decide
 have x1:kx 5 1=-59046:=by decide
 have y1:ky 5 1=-56475:=by decide
 have x2:kx 5 2=19422:=by decide
 have y2:ky 5 2=-79335:=by decide
 have x3:kx 5 3=78468:=by decide
 have y3:ky 5 3=-22860:=by decide
 have x4:kx 5 4=59046:=by decide
 have y4:ky 5 4=56475:=by decide
 have x5:kx 5 5=-19422:=by decide
 have y5:ky 5 5=79335:=by decide
 unfold l7 at h;simp only [Ei.mul,ax] at h;have g:∀i,hx q 5 i=3*cx q 5+kx 5 i:=fun i=>aw q 5 i;have g':∀i,hy q 5 i=3*cy q 5+ky 5 i:=fun i=>au q 5 i;have h1:=h.1;have h2:=h.2.1;have h3:=h.2.2;refine ⟨by omega,fun i hi=>?_,⟨0,by decide,?_⟩,⟨3,by decide,?_⟩,⟨2,by decide,?_⟩,⟨5,by decide,?_⟩⟩
 ·rcases lt6 hi with rfl | rfl | rfl | rfl | rfl | rfl<;>simp only [crs,g,g',x0,x1,x2,x3,x4,x5,y0,y1,y2,y3,y4,y5]<;>omega
 ·simp only [g,x0,x1,x2,x3,x4,x5]; omega
 ·simp only [g,x0,x1,x2,x3,x4,x5]; omega
 ·simp only [g',y0,y1,y2,y3,y4,y5]; omega
 ·simp only [g',y0,y1,y2,y3,y4,y5]; omega
theorem biy (x y:Int):sp x y (i5 x y 6) 6:=by
 have h:=j9 ((ax x y).mul (g7 (12-6)).conj) (d:=2340*7^(12-6)) (by decide);have e:(g7 (12-6)).conj=⟨37,-360⟩:=by decide
 have ed:(2340*7^(12-6):Int)=275298660:=by decide
 have eb:g7 (12-6)=⟨-323,360⟩:=by decide
 unfold i5;generalize Ei.round _ _=q at *;rw [e,ed] at h;have ex:cx q 6=52*(-323*q.a-360*q.b)+26*(-323*q.b+360*q.a+360*q.b):=by simp only [cx,eb,Ei.mul]
 have ey:cy q 6=45*(-323*q.b+360*q.a+360*q.b):=by simp only [cy,eb,Ei.mul]
 have x0:kx 6 0=-25194:=by decide
 have y0:ky 6 0=17865:=by decide
 have x1:kx 6 1=-28080:=by decide
 have y1:ky 6 1=-12870:=by decide
 have x2:kx 6 2=-2886:=by decide
 have y2:ky 6 2=-30735:=by decide
 have x3:kx 6 3=25194:=by decide
 have y3:ky 6 3=-17865:=by decide
 have x4:kx 6 4=28080:=by decide
 have y4:ky 6 4=12870:=by decide
 have x5:kx 6 5=2886:=by decide
 have y5:ky 6 5=30735:=by decide
 unfold l7 at h;simp only [Ei.mul,ax] at h;have g:∀i,hx q 6 i=3*cx q 6+kx 6 i:=fun i=>aw q 6 i;have g':∀i,hy q 6 i=3*cy q 6+ky 6 i:=fun i=>au q 6 i;have h1:=h.1;have h2:=h.2.1;have h3:=h.2.2;refine ⟨by omega,fun i hi=>?_,⟨1,by decide,?_⟩,⟨4,by decide,?_⟩,⟨2,by decide,?_⟩,⟨5,by decide,?_⟩⟩
 ·rcases lt6 hi with rfl | rfl | rfl | rfl | rfl | rfl<;>simp only [crs,g,g',x0,x1,x2,x3,x4,x5,y0,y1,y2,y3,y4,y5]<;>omega
 ·simp only [g,x0,x1,x2,x3,x4,x5]; omega
 ·simp only [g,x0,x1,x2,x3,x4,x5]; omega
 ·simp only [g',y0,y1,y2,y3,y4,y5]; omega
 ·simp only [g',y0,y1,y2,y3,y4,y5]; omega
theorem bix (x y:Int):sp x y (i5 x y 7) 7:=by
 have h:=j9 ((ax x y).mul (g7 (12-7)).conj) (d:=2340*7^(12-7)) (by decide);have e:(g7 (12-7)).conj=⟨62,-149⟩:=by decide
 have ed:(2340*7^(12-7):Int)=39328380:=by decide
 have eb:g7 (12-7)=⟨-87,149⟩:=by decide
 unfold i5;generalize Ei.round _ _=q at *;rw [e,ed] at h;have ex:cx q 7=52*(-87*q.a-149*q.b)+26*(-87*q.b+149*q.a+149*q.b):=by simp only [cx,eb,Ei.mul]
 have ey:cy q 7=45*(-87*q.b+149*q.a+149*q.b):=by simp only [cy,eb,Ei.mul]
 have x0:kx 7 0=-6786:=by decide
 have y0:ky 7 0=9495:=by decide
 have x1:kx 7 1=-11622:=by decide
 have y1:ky 7 1=-1125:=by decide
 have x2:kx 7 2=-4836:=by decide
 have y2:ky 7 2=-10620:=by decide
 have x3:kx 7 3=6786:=by decide
 have y3:ky 7 3=-9495:=by decide
 have x4:kx 7 4=11622:=by decide
 have y4:ky 7 4=1125:=by decide
 have x5:kx 7 5=4836:=by decide
 have y5:ky 7 5=10620:=by decide
 unfold l7 at h;simp only [Ei.mul,ax] at h;have g:∀i,hx q 7 i=3*cx q 7+kx 7 i:=fun i=>aw q 7 i;have g':∀i,hy q 7 i=3*cy q 7+ky 7 i:=fun i=>au q 7 i;have h1:=h.1;have h2:=h.2.1;have h3:=h.2.2;refine ⟨by omega,fun i hi=>?_,⟨1,by decide,?_⟩,⟨4,by decide,?_⟩,⟨2,by decide,?_⟩,⟨5,by decide,?_⟩⟩
 ·rcases lt6 hi with rfl | rfl | rfl | rfl | rfl | rfl<;>simp only [crs,g,g',x0,x1,x2,x3,x4,x5,y0,y1,y2,y3,y4,y5]<;>omega
 ·simp only [g,x0,x1,x2,x3,x4,x5]; omega
 ·simp only [g,x0,x1,x2,x3,x4,x5]; omega
 ·simp only [g',y0,y1,y2,y3,y4,y5]; omega
 ·simp only [g',y0,y1,y2,y3,y4,y5]; omega
theorem biw (x y:Int):sp x y (i5 x y 8) 8:=by
 have h:=j9 ((ax x y).mul (g7 (12-8)).conj) (d:=2340*7^(12-8)) (by decide);have e:(g7 (12-8)).conj=⟨39,-55⟩:=by decide
 have ed:(2340*7^(12-8):Int)=5618340:=by decide
 have eb:g7 (12-8)=⟨-16,55⟩:=by decide
 unfold i5;generalize Ei.round _ _=q at *;rw [e,ed] at h;have ex:cx q 8=52*(-16*q.a-55*q.b)+26*(-16*q.b+55*q.a+55*q.b):=by simp only [cx,eb,Ei.mul]
 have ey:cy q 8=45*(-16*q.b+55*q.a+55*q.b):=by simp only [cy,eb,Ei.mul]
 have x0:kx 8 0=-1248:=by decide
 have y0:ky 8 0=4230:=by decide
 have x1:kx 8 1=-4290:=by decide
 have y1:ky 8 1=1035:=by decide
 have x2:kx 8 2=-3042:=by decide
 have y2:ky 8 2=-3195:=by decide
 have x3:kx 8 3=1248:=by decide
 have y3:ky 8 3=-4230:=by decide
 have x4:kx 8 4=4290:=by decide
 have y4:ky 8 4=-1035:=by decide
 have x5:kx 8 5=3042:=by decide
 have y5:ky 8 5=3195:=by decide
 unfold l7 at h;simp only [Ei.mul,ax] at h;have g:∀i,hx q 8 i=3*cx q 8+kx 8 i:=fun i=>aw q 8 i;have g':∀i,hy q 8 i=3*cy q 8+ky 8 i:=fun i=>au q 8 i;have h1:=h.1;have h2:=h.2.1;have h3:=h.2.2;refine ⟨by omega,fun i hi=>?_,⟨1,by decide,?_⟩,⟨4,by decide,?_⟩,⟨3,by decide,?_⟩,⟨0,by decide,?_⟩⟩
 ·rcases lt6 hi with rfl | rfl | rfl | rfl | rfl | rfl<;>simp only [crs,g,g',x0,x1,x2,x3,x4,x5,y0,y1,y2,y3,y4,y5]<;>omega
 ·simp only [g,x0,x1,x2,x3,x4,x5]; omega
 ·simp only [g,x0,x1,x2,x3,x4,x5]; omega
 ·simp only [g',y0,y1,y2,y3,y4,y5]; omega
 ·simp only [g',y0,y1,y2,y3,y4,y5]; omega
theorem biv (x y:Int):sp x y (i5 x y 9) 9:=by
 have h:=j9 ((ax x y).mul (g7 (12-9)).conj) (d:=2340*7^(12-9)) (by decide);have e:(g7 (12-9)).conj=⟨19,-18⟩:=by decide
 have ed:(2340*7^(12-9):Int)=802620:=by decide
 have eb:g7 (12-9)=⟨1,18⟩:=by decide
 unfold i5;generalize Ei.round _ _=q at *;rw [e,ed] at h;have ex:cx q 9=52*(1*q.a-18*q.b)+26*(1*q.b+18*q.a+18*q.b):=by simp only [cx,eb,Ei.mul]
 have ey:cy q 9=45*(1*q.b+18*q.a+18*q.b):=by simp only [cy,eb,Ei.mul]
 have x0:kx 9 0=78:=by decide
 have y0:ky 9 0=1665:=by decide
 have x1:kx 9 1=-1404:=by decide
 have y1:ky 9 1=900:=by decide
 have x2:kx 9 2=-1482:=by decide
 have y2:ky 9 2=-765:=by decide
 have x3:kx 9 3=-78:=by decide
 have y3:ky 9 3=-1665:=by decide
 have x4:kx 9 4=1404:=by decide
 have y4:ky 9 4=-900:=by decide
 have x5:kx 9 5=1482:=by decide
 have y5:ky 9 5=765:=by decide
 unfold l7 at h;simp only [Ei.mul,ax] at h;have g:∀i,hx q 9 i=3*cx q 9+kx 9 i:=fun i=>aw q 9 i;have g':∀i,hy q 9 i=3*cy q 9+ky 9 i:=fun i=>au q 9 i;have h1:=h.1;have h2:=h.2.1;have h3:=h.2.2;refine ⟨by omega,fun i hi=>?_,⟨2,by decide,?_⟩,⟨5,by decide,?_⟩,⟨3,by decide,?_⟩,⟨0,by decide,?_⟩⟩
 ·rcases lt6 hi with rfl | rfl | rfl | rfl | rfl | rfl<;>simp only [crs,g,g',x0,x1,x2,x3,x4,x5,y0,y1,y2,y3,y4,y5]<;>omega
 ·simp only [g,x0,x1,x2,x3,x4,x5]; omega
 ·simp only [g,x0,x1,x2,x3,x4,x5]; omega
 ·simp only [g',y0,y1,y2,y3,y4,y5]; omega
 ·simp only [g',y0,y1,y2,y3,y4,y5]; omega
theorem bgb (x y:Int):sp x y (i5 x y 10) 10:=by
 have h:=j9 ((ax x y).mul (g7 (12-10)).conj) (d:=2340*7^(12-10)) (by decide);have e:(g7 (12-10)).conj=⟨8,-5⟩:=by decide
 have ed:(2340*7^(12-10):Int)=114660:=by decide
 have eb:g7 (12-10)=⟨3,5⟩:=by decide
 unfold i5;generalize Ei.round _ _=q at *;rw [e,ed] at h;have ex:cx q 10=52*(3*q.a-5*q.b)+26*(3*q.b+5*q.a+5*q.b):=by simp only [cx,eb,Ei.mul]
 have ey:cy q 10=45*(3*q.b+5*q.a+5*q.b):=by simp only [cy,eb,Ei.mul]
 have x0:kx 10 0=234:=by decide
 have y0:ky 10 0=585:=by decide
 have x1:kx 10 1=-390:=by decide
 have y1:ky 10 1=495:=by decide
 have x2:kx 10 2=-624:=by decide
 have y2:ky 10 2=-90:=by decide
 have x3:kx 10 3=-234:=by decide
 have y3:ky 10 3=-585:=by decide
 have x4:kx 10 4=390:=by decide
 have y4:ky 10 4=-495:=by decide
 have x5:kx 10 5=624:=by decide
 have y5:ky 10 5=90:=by decide
 unfold l7 at h;simp only [Ei.mul,ax] at h;have g:∀i,hx q 10 i=3*cx q 10+kx 10 i:=fun i=>aw q 10 i;have g':∀i,hy q 10 i=3*cy q 10+ky 10 i:=fun i=>au q 10 i;have h1:=h.1;have h2:=h.2.1;have h3:=h.2.2;refine ⟨by omega,fun i hi=>?_,⟨2,by decide,?_⟩,⟨5,by decide,?_⟩,⟨3,by decide,?_⟩,⟨0,by decide,?_⟩⟩
 ·rcases lt6 hi with rfl | rfl | rfl | rfl | rfl | rfl<;>simp only [crs,g,g',x0,x1,x2,x3,x4,x5,y0,y1,y2,y3,y4,y5]<;>omega
 ·simp only [g,x0,x1,x2,x3,x4,x5]; omega
 ·simp only [g,x0,x1,x2,x3,x4,x5]; omega
 ·simp only [g',y0,y1,y2,y3,y4,y5]; omega
 ·simp only [g',y0,y1,y2,y3,y4,y5]; omega
theorem bga (x y:Int):sp x y (i5 x y 11) 11:=by
 have h:=j9 ((ax x y).mul (g7 (12-11)).conj) (d:=2340*7^(12-11)) (by decide);have e:(g7 (12-11)).conj=⟨3,-1⟩:=by decide
 have ed:(2340*7^(12-11):Int)=16380:=by decide
 have eb:g7 (12-11)=⟨2,1⟩:=by decide
 unfold i5;generalize Ei.round _ _=q at *;rw [e,ed] at h;have ex:cx q 11=52*(2*q.a-1*q.b)+26*(2*q.b+1*q.a+1*q.b):=by simp only [cx,eb,Ei.mul]
 have ey:cy q 11=45*(2*q.b+1*q.a+1*q.b):=by simp only [cy,eb,Ei.mul]
 have x0:kx 11 0=156:=by decide
 have y0:ky 11 0=180:=by decide
 have x1:kx 11 1=-78:=by decide
 have y1:ky 11 1=225:=by decide
 have x2:kx 11 2=-234:=by decide
 have y2:ky 11 2=45:=by decide
 have x3:kx 11 3=-156:=by decide
 have y3:ky 11 3=-180:=by decide
 have x4:kx 11 4=78:=by decide
 have y4:ky 11 4=-225:=by decide
 have x5:kx 11 5=234:=by decide
 have y5:ky 11 5=-45:=by decide
 unfold l7 at h;simp only [Ei.mul,ax] at h;have g:∀i,hx q 11 i=3*cx q 11+kx 11 i:=fun i=>aw q 11 i;have g':∀i,hy q 11 i=3*cy q 11+ky 11 i:=fun i=>au q 11 i;have h1:=h.1;have h2:=h.2.1;have h3:=h.2.2;refine ⟨by omega,fun i hi=>?_,⟨2,by decide,?_⟩,⟨5,by decide,?_⟩,⟨4,by decide,?_⟩,⟨1,by decide,?_⟩⟩
 ·rcases lt6 hi with rfl | rfl | rfl | rfl | rfl | rfl<;>simp only [crs,g,g',x0,x1,x2,x3,x4,x5,y0,y1,y2,y3,y4,y5]<;>omega
 ·simp only [g,x0,x1,x2,x3,x4,x5]; omega
 ·simp only [g,x0,x1,x2,x3,x4,x5]; omega
 ·simp only [g',y0,y1,y2,y3,y4,y5]; omega
 ·simp only [g',y0,y1,y2,y3,y4,y5]; omega
theorem bf9 (x y:Int):sp x y (i5 x y 12) 12:=by
 have h:=j9 ((ax x y).mul (g7 (12-12)).conj) (d:=2340*7^(12-12)) (by decide);have e:(g7 (12-12)).conj=⟨1,0⟩:=by decide
 have ed:(2340*7^(12-12):Int)=2340:=by decide
 have eb:g7 (12-12)=⟨1,0⟩:=by decide
 unfold i5;generalize Ei.round _ _=q at *;rw [e,ed] at h;have ex:cx q 12=52*(1*q.a-0*q.b)+26*(1*q.b+0*q.a+0*q.b):=by simp only [cx,eb,Ei.mul]
 have ey:cy q 12=45*(1*q.b+0*q.a+0*q.b):=by simp only [cy,eb,Ei.mul]
 have x0:kx 12 0=78:=by decide
 have y0:ky 12 0=45:=by decide
 have x1:kx 12 1=0:=by decide
 have y1:ky 12 1=90:=by decide
 have x2:kx 12 2=-78:=by decide
 have y2:ky 12 2=45:=by decide
 have x3:kx 12 3=-78:=by decide
 have y3:ky 12 3=-45:=by decide
 have x4:kx 12 4=0:=by decide
 have y4:ky 12 4=-90:=by decide
 have x5:kx 12 5=78:=by decide
 have y5:ky 12 5=-45:=by decide
 unfold l7 at h;simp only [Ei.mul,ax] at h;have g:∀i,hx q 12 i=3*cx q 12+kx 12 i:=fun i=>aw q 12 i;have g':∀i,hy q 12 i=3*cy q 12+ky 12 i:=fun i=>au q 12 i;have h1:=h.1;have h2:=h.2.1;have h3:=h.2.2;refine ⟨by omega,fun i hi=>?_,⟨2,by decide,?_⟩,⟨0,by decide,?_⟩,⟨4,by decide,?_⟩,⟨1,by decide,?_⟩⟩
 ·rcases lt6 hi with rfl | rfl | rfl | rfl | rfl | rfl<;>simp only [crs,g,g',x0,x1,x2,x3,x4,x5,y0,y1,y2,y3,y4,y5]<;>omega
 ·simp only [g,x0,x1,x2,x3,x4,x5]; omega
 ·simp only [g,x0,x1,x2,x3,x4,x5]; omega
 ·simp only [g',y0,y1,y2,y3,y4,y5]; omega
 ·simp only [g',y0,y1,y2,y3,y4,y5]; omega
theorem awx (x y:Int) (r:Nat) (hr:r≤12):sp x y (i5 x y r) r:=by
 match r,hr with
 | 0,_=>exact bi4 x y
 | 1,_=>exact bi3 x y
 | 2,_=>exact bi2 x y
 | 3,_=>exact bi1 x y
 | 4,_=>exact bi0 x y
 | 5,_=>exact biz x y
 | 6,_=>exact biy x y
 | 7,_=>exact bix x y
 | 8,_=>exact biw x y
 | 9,_=>exact biv x y
 | 10,_=>exact bgb x y
 | 11,_=>exact bga x y
 | 12,_=>exact bf9 x y
 | r+13,h=>omega

theorem lb {r:Nat} (hr:r≤12):(g7 (12-r)).In 120000:=abw _ (by omega)
theorem aoq {z:Ei} {n:Int} {by_:Int} (h:z.In n) (hb:0≤by_∧by_≤3) (hn:0≤n):(⟨by_*z.a,by_*z.b⟩:Ei).In (3*n):=by
 have h1:=gc (show -3≤by_∧by_≤3 by omega) h.1;have h2:=gc (show -3≤by_∧by_≤3 by omega) h.2;exact ⟨h1,h2⟩
def iy (z:Ei) (r:Nat) (b:Int):Ei:=(g7 (12-r)).mul ⟨b*z.a,b*z.b⟩
theorem at8 {z:Ei} {r:Nat} {b:Int} (h:z.In 1073741824) (hr:r≤12) (hb:0≤b∧b≤3):(iy z r b).In 1159641169920000:=(ahr (lb hr) (aoq h hb (by decide))).mono (by decide)
theorem bcm (z:Ei) (r b:Int) (h:z.In 1073741824) (hr:0≤r∧r≤12) (hb:0≤b∧b≤3):a8 P0 124 [z.v,int .i64 r,int .i64 b] [] (.tup [(iy z r.toNat b).v,bl true]) []:=by
 refine akp rfl (by decide) ?_;have h':=h;unfold Ei.In at h';have i1:in64 z.a∧in64 z.b:=by unfold in64; omega
 push_cast [ahm,Ei.v,Ei.rv,zaa]
 refine a5 (as5 r) rfl trivial ?_;rw [decide_eq_true hr]
 push_cast
 refine a5 (aa5 _ _ i1.1 (by decide)) rfl trivial ?_;rw [show decide (-1073741824≤z.a∧z.a≤1073741824)=true from decide_eq_true h'.1]
 push_cast
 refine a5 (aa5 _ _ i1.2 (by decide)) rfl trivial ?_;rw [show decide (-1073741824≤z.b∧z.b≤1073741824)=true from decide_eq_true h'.2]
 push_cast
 rw [show IntKind.i64.wrap (12-r)=12-r from a7 (by omega)];refine a5 (ate (12-r) (by omega)) rfl trivial ?_
 push_cast [Ei.v,Ei.rv]
 have hs:=aoq h hb (by decide);unfold Ei.In at hs;rw [show IntKind.i64.wrap (b*z.a)=b*z.a from a7 (by have:=hs.1; dsimp only at this; omega),show IntKind.i64.wrap (b*z.b)=b*z.b from a7 (by have:=hs.2; dsimp only at this; omega)];refine b9 (as':=[(g7 (12-r).toNat).v,Ei.v ⟨b*z.a,b*z.b⟩]) rfl ?_;have e:(12-r).toNat=12-r.toNat:=by omega
 refine a5 (ae4 _ _ ((abw _ (by omega)).mono (by decide)) ((aoq h hb (by decide)).mono (by decide)) ?_) rfl trivial ?_
 ·rw [e]; exact (at8 h (by omega) hb).mono (by decide)
 push_cast [iy,← e,Ei.v,Ei.rv]
def pnt (x y:Int):RV:=.agg [.v (.int .i64 x),.v (.int .i64 y)]
theorem be3 (w:Ei) (h:w.In 10000000000000000):a8 P0 179 [w.v] [] (.r (pnt (52*w.a+26*w.b) (45*w.b))) []:=by
 refine am2 rfl (by decide) ?_;unfold Ei.In at h
 push_cast [ajm,Ei.v,Ei.rv,zaa]
 rw [show IntKind.i64.wrap (52*w.a)=52*w.a from a7 (by omega),show IntKind.i64.wrap (26*w.b)=26*w.b from a7 (by omega),show IntKind.i64.wrap (52*w.a+26*w.b)=52*w.a+26*w.b from a7 (by omega),show IntKind.i64.wrap (45*w.b)=45*w.b from a7 (by omega)]
 rfl
theorem bht {x y:Ei} {n m:Int} (hx:x.In n) (hy:y.In m):(x.add y).In (n+m):=by
 unfold Ei.In Ei.add at *;dsimp only;omega
theorem a96 (i:Nat):(vv i).In 2:=by
 unfold vv;split<;>unfold Ei.In<;>decide
def cen (m b:Ei):AV:=.r (.agg [.v (.int .i64 m.a),.v (.int .i64 m.b),.v (.int .i64 b.a),.v (.int .i64 b.b)])
theorem axn (m b k:Ei) (hm:m.In 1159641169920000) (hb:b.In 120000) (hk:k.In 2):a8 P0 126 [cen m b,k.v] [] (.r (pnt (52*(m.add (b.mul k)).a+26*(m.add (b.mul k)).b) (45*(m.add (b.mul k)).b))) []:=by
 refine ac3 rfl (by decide) ?_;have hbk:(b.mul k).In 720000:=(ahr hb hk).mono (by decide)
 push_cast [vy,cen,Ei.v,Ei.rv,zaa]
 refine b9 (as':=[b.v,k.v]) rfl ?_;refine a5 (ae4 _ _ (hb.mono (by decide)) (hk.mono (by decide)) (hbk.mono (by decide))) rfl trivial ?_
 push_cast [Ei.v,Ei.rv]
 refine b9 (as':=[m.v,(b.mul k).v]) rfl ?_;have hs:=bht hm hbk;refine a5 (a50 _ _ (hm.mono (by decide)) (hbk.mono (by decide)) (hs.mono (by decide))) rfl trivial ?_
 push_cast [Ei.v,Ei.rv]
 refine b9 (as':=[(m.add (b.mul k)).v]) rfl ?_;refine a5 (be3 _ (hs.mono (by decide))) rfl trivial ?_
 push_cast [pnt]
def a19 (z:Ei) (r i:Nat):RV:=pnt (hx z r i) (hy z r i)
def xo (z:Ei) (r:Nat) (n:Nat):List RV:=(zcl n).map (a19 z r)
theorem a5r (z:Ei) (r n:Nat):xo z r n++[a19 z r n]=xo z r (n+1):=by simp [xo,List.range_succ]
theorem aw7 (z:Ei) (r n:Nat):(xo z r n).length=n:=by simp [xo]
theorem az3 (z:Ei) (r i:Nat):RV.agg [.v (.int .i64 (52*((iy z r 3).add ((g7 (12-r)).mul (vv i))).a+26*((iy z r 3).add ((g7 (12-r)).mul (vv i))).b)),.v (.int .i64 (45*((iy z r 3).add ((g7 (12-r)).mul (vv i))).b))]=a19 z r i:=by
 have h:(iy z r 3).add ((g7 (12-r)).mul (vv i))=hc z r i:=by
  apply Ei.ext'<;>simp only [iy,Ei.add,Ei.mul,hc,zcg]<;>omega
 rw [h]; rfl
def vvL:List RV:=[(vv 0).rv,(vv 1).rv,(vv 2).rv,(vv 3).rv,(vv 4).rv,(vv 5).rv]
theorem a3c (i:Nat) (h:i<6) (d:RV):vvL.getD i d=.agg [.v (.int .i64 (vv i).a),.v (.int .i64 (vv i).b)]:=by
 rcases lt6 h with rfl | rfl | rfl | rfl | rfl | rfl<;>rfl
theorem bat (z:Ei) (r:Int) (h:z.In 1073741824) (hr:0≤r∧r≤12):a8 P0 73 [z.v,int .i64 r] [] (.tup [.own 1000000 0 0 6,bl true]) [.row 2 (pnt 0 0) true true (xo z r.toNat 6)]:=by
  refine aow rfl (by decide) ?_;simp only [aks,Ei.v,Ei.rv,push_cast,↓reduceIte,reduceCtorEq,zB,zE,zA,zS,zL,zD,zM];refine b9 (as':=[z.v,int .i64 r,int .i64 3]) rfl ?_;refine a5 (bcm z r 3 h hr (by decide)) rfl trivial ?_;simp only [Ei.v,Ei.rv,push_cast,↓reduceIte,reduceCtorEq,zB,zE,zA,zS,zL,zD,zM];rw [show IntKind.i64.wrap (12-r)=12-r from a7 (by omega)];refine a5 (ate (12-r) (by omega)) rfl trivial ?_;simp only [Ei.v,Ei.rv,push_cast,↓reduceIte,reduceCtorEq,zB,zE,zA,zS,zL,zD,zM];refine ⟨by simp,?_⟩;have e:(12-r).toNat=12-r.toNat:=by omega
  have hk:r.toNat≤12:=by omega
  have hmax:=j7;generalize hR:r.toNat=R at *;rw [e];have hm:(iy z R 3).In 1159641169920000:=at8 h hk (by decide);have hb:(g7 (12-R)).In 120000:=lb hk
  refine run_loop [(38,false),(39,false),(40,false),(10,false),(11,false)] (fun vs pos los=>∃i:Nat,i≤6∧pos=[] ∧
    ((i=0∧vs=[.own 2000000 0 0 6,int .i64 6,int .i64 i,.fn (.func 126) [.agg [int .i64 (iy z R 3).a,int .i64 (iy z R 3).b,int .i64 (g7 (12-R)).a,int .i64 (g7 (12-R)).b]] 1,.nils 2 (.agg [.v (.int .i64 0),.v (.int .i64 0)])]∧los=[.row 2 (.agg [.v (.int .i64 0),.v (.int .i64 0)]) true true vvL]) ∨
     (0<i∧vs=[.own 2000000 0 0 6,int .i64 6,int .i64 i,.fn (.func 126) [.agg [int .i64 (iy z R 3).a,int .i64 (iy z R 3).b,int .i64 (g7 (12-R)).a,int .i64 (g7 (12-R)).b]] 1,.own 2000001 0 0 i]∧los=[.row 2 (.agg [.v (.int .i64 0),.v (.int .i64 0)]) true true vvL,.row 2 (pnt 0 0) true true (xo z R i)])))
    (fun vs _ _=>match vs with | _::_ :: .r (.v (.int _ j))::_=>(6-j).toNat | _=>0) rfl ?_ ?_
  · simp only [push_cast,↓reduceIte,reduceCtorEq,zB,zE,zA,zS,zL,zD,zM];exact ⟨0,by omega,.inl ⟨rfl,rfl,rfl⟩⟩
  · rintro vs pos los ⟨i,i6,rfl,⟨i0,rfl,rfl⟩ | ⟨i0,rfl,rfl⟩⟩
    · subst i0;simp only [push_cast,↓reduceIte,reduceCtorEq,zB,zE,zA,zS,zL,zD,zM];rw [show decide ((0:Int)<6)=true from rfl];simp only [push_cast,↓reduceIte,reduceCtorEq,zB,zE,zA,zS,zL,zD,zM];refine ⟨by simp,?_⟩;rw [show (0:Int).toNat=0 from rfl,show 0+0=0 from rfl,a3c 0 (by decide)];simp only [push_cast,↓reduceIte,reduceCtorEq,zB,zE,zA,zS,zL,zD,zM];refine ⟨by kernel_rfl,?_⟩;refine b9 (as':=[cen (iy z R 3) (g7 (12-R)),(vv 0).v]) rfl ?_;refine a5 (axn _ _ _ hm hb (a96 0)) rfl trivial ?_;simp only [pnt,push_cast,↓reduceIte,reduceCtorEq,zB,zE,zA,zS,zL,zD,zM];refine ⟨by decide,by omega,?_,?_⟩
      · refine ⟨1,by omega,.inr ⟨by omega,?_,?_⟩⟩
        · rw [show IntKind.i64.wrap (0+1)=((1:Nat):Int) by decide]
        · rw [az3]; rfl
      · decide
    · simp only [push_cast,↓reduceIte,reduceCtorEq,zB,zE,zA,zS,zL,zD,zM];refine c7 (fun h=>?_) (fun h=>?_)
      · have hi:i<6:=by simp at h; omega
        simp only [push_cast,↓reduceIte,reduceCtorEq,zB,zE,zA,zS,zL,zD,zM];refine ⟨by simp; omega,?_⟩;rw [zcb,zcq,a3c i hi];simp only [push_cast,↓reduceIte,reduceCtorEq,zB,zE,zA,zS,zL,zD,zM];refine ⟨by kernel_rfl,?_⟩;refine b9 (as':=[cen (iy z R 3) (g7 (12-R)),(vv i).v]) rfl ?_;refine a5 (axn _ _ _ hm hb (a96 i)) rfl trivial ?_;simp only [pnt,push_cast,↓reduceIte,reduceCtorEq,zB,zE,zA,zS,zL,zD,zM];rw [az3,show IntKind.i64.wrap ((i:Int)+1)=((i+1:Nat):Int) by rw [a7 (by omega)]; omega,List.take_of_length_le (by rw [aw7]; exact Nat.le_refl _),a5r];refine ⟨by decide,by omega,?_,?_⟩
        · exact ⟨i+1,by omega,.inr ⟨by omega,rfl,rfl⟩⟩
        · omega
      · have hi:i=6:=by simp at h; omega
        subst hi;simp only [push_cast,↓reduceIte,reduceCtorEq,zB,zE,zA,zS,zL,zD,zM]

def ajw:Mk P0 f199:={ x:=_ }
theorem ane:d5 199 1 ajw:=c8 func199
def ajx:Mk P0 f198:={ x:=_ }
theorem anf:d5 198 1 ajx:=c8 func198
def ajy:Mk P0 f200:={ x:=_ }
theorem ang:d5 200 1 ajy:=c8 func200
def ajz:Mk P0 f201:={ x:=_ }
theorem anh:d5 201 1 ajz:=c8 func201
def an6:Mk P0 f162:={ x:=_ }
theorem ar2:d5 162 1 an6:=c8 func162
def ar3:Mk P0 f166:={ x:=_ }
theorem ath:d5 166 1 ar3:=c8 func166
def ar4:Mk P0 f114:={ x:=_ }
theorem ati:d5 114 3 ar4:=c8 func114
theorem bag {z:Ei} {n:Int} (h:z.In n) (h1:2≤n):(pr z).In n:=by
 obtain ⟨l,_,g1,e1,f1⟩:=aej z;generalize pr z=q at *;unfold Ei.H at g1;unfold Ei.In at *;omega
theorem a6u {z:Ei} {n:Int} (k:Nat) (h:z.In n) (h1:2≤n):(anc k z).In n:=by
 induction k generalizing z with
 | zero=>exact h
 | succ k ih=>exact ih (bag h h1)
theorem bgc (z:Ei):(lft z).In 1:=by
 obtain ⟨l,e,g1,_⟩:=aej z;rw [e];exact g1.in
theorem bbk (z:Ei) (h:z.In 1073741824):a8 P0 199 [z.v] [] (.tup [(pr z).v,(lft z).v]) []:=by
 refine ane rfl (by decide) ?_
 push_cast [ajw,Ei.v,Ei.rv,zaa]
 refine b9 (as':=[fv.v]) rfl ?_;refine a5 (a0b fv (by unfold Ei.In; decide)) rfl trivial ?_
 push_cast [Ei.v,Ei.rv]
 have h1:(z.mul ⟨3,-1⟩).In 9663676416:=(ahr h (show (⟨3,-1⟩:Ei).In 3 by unfold Ei.In; decide)).mono (by decide);refine b9 (as':=[z.v,Ei.v ⟨3,-1⟩]) rfl ?_;refine a5 (ae4 _ _ (h.mono (by decide)) (show (⟨3,-1⟩:Ei).In _ by unfold Ei.In; decide) (h1.mono (by decide))) rfl trivial ?_
 push_cast [Ei.v,Ei.rv]
 refine b9 (as':=[(z.mul ⟨3,-1⟩).v,int .i64 7]) rfl ?_;refine a5 (axj _ 7 (h1.mono (by decide)) (by decide)) rfl trivial ?_;rw [show (z.mul ⟨3,-1⟩).round 7=pr z from rfl];have h2:(pr z).In 1073741824:=bag h (by decide);have h3:((pr z).mul fv).In 6442450944:=(ahr h2 (show fv.In 2 by unfold Ei.In; decide)).mono (by decide)
 push_cast [Ei.v,Ei.rv]
 refine b9 (as':=[(pr z).v,fv.v]) rfl ?_;refine a5 (ae4 _ _ (h2.mono (by decide)) (show fv.In _ by unfold Ei.In; decide) (h3.mono (by decide))) rfl trivial ?_
 push_cast [Ei.v,Ei.rv]
 refine b9 (as':=[z.v,((pr z).mul fv).v]) rfl ?_;refine a5 (bg1 _ _ (h.mono (by decide)) (h3.mono (by decide)) ((bgc z).mono (by decide))) rfl trivial ?_;rw [show z.sub ((pr z).mul fv)=lft z from rfl]
 push_cast [Ei.v,Ei.rv]
 kernel_rfl
def cel (r:Int) (z:Ei):AV:=.r (.agg [.v (.int .i64 r),.v (.int .i64 z.a),.v (.int .i64 z.b)])
instance (z:Ei) (n:Int):Decidable (z.In n):=inferInstanceAs (Decidable (_∧_))
def pi (r:Int) (z:Ei):Bool:=decide ((0≤r∧r≤12)∧z.In 1073741824)
theorem bbo (r:Int) (z:Ei) (hz:z.In M63):a8 P0 198 [cel r z] [] (bl (pi r z)) []:=by
 refine anf rfl (by decide) ?_
 push_cast [ajx,cel,zaa]
 by_cases h1:0≤r
 ·by_cases h2:r≤12
  ·have g1:decide (r≥0)=true:=by simp; omega
   have g2:decide (r≤12)=true:=by simp; omega
   push_cast [g1,g2]
   refine a5 (aa5 _ _ hz.ok.1 (by decide)) rfl trivial ?_;by_cases h3:-1073741824≤z.a∧z.a≤1073741824
   ·rw [decide_eq_true h3]
    push_cast
    refine a5 (aa5 _ _ hz.ok.2 (by decide)) rfl trivial ?_
    push_cast
    refine la ?_;simp [pi,Ei.In,h1,h2,h3.1,h3.2]
   ·rw [decide_eq_false h3]
    push_cast
    have:pi r z=false:=by simp only [pi,Ei.In]; exact decide_eq_false fun c=>h3 c.2.1
    rw [this]
  ·have g1:decide (r≥0)=true:=by simp; omega
   have g2:decide (r≤12)=false:=by simp; omega
   push_cast [g1,g2]
   have:pi r z=false:=by simp only [pi,decide_eq_false_iff_not]; omega
   rw [this]
 ·have g1:decide (r≥0)=false:=by simp; omega
  push_cast [g1]
  have:pi r z=false:=by simp only [pi,decide_eq_false_iff_not]; omega
  rw [this]
theorem a9g (i:Nat) (h:i<6):dgOf (uni i)=i+1:=by
 rcases lt6 h with rfl | rfl | rfl | rfl | rfl | rfl<;>decide
theorem bdn (l:Ei) (h:∀j:Nat,j<6→uni j≠l):dgOf l=0:=by
 have h0:=h 0 (by decide); have h1:=h 1 (by decide); have h2:=h 2 (by decide); have h3:=h 3 (by decide); have h4:=h 4 (by decide); have h5:=h 5 (by decide);unfold dgOf;rw [if_neg (show ¬l=⟨1,0⟩ from Ne.symm h0),if_neg (show ¬l=⟨0,1⟩ from Ne.symm h1),if_neg (show ¬l=⟨-1,1⟩ from Ne.symm h2),if_neg (show ¬l=⟨-1,0⟩ from Ne.symm h3),if_neg (show ¬l=⟨0,-1⟩ from Ne.symm h4),if_neg (show ¬l=⟨1,-1⟩ from Ne.symm h5)]
theorem bdm (l:Ei):a8 P0 200 [l.v] [] (int .i64 (dgOf l)) []:=by
 refine ang rfl (by decide) ?_
 push_cast [ajy,Ei.v,Ei.rv,zaa]
 refine run_loop [(4,false),(1,false)] (fun vs pos los=>∃i:Int,(0≤i∧i≤6)∧(∀j:Nat,(j:Int)<i→uni j≠l)∧vs=[int .i64 i,.ptr 2000000 0 0]∧pos=[]∧los=[.box [int .i64 l.a,int .i64 l.b]])
  (fun vs _ _=>match vs with | .r (.v (.int _ j))::_=>(6-j).toNat | _=>0) rfl ?_ ?_
 ·push_cast
  exact ⟨0,by omega,fun j hj=>by omega,rfl⟩
 ·rintro vs pos los ⟨i,i6,hj,rfl,rfl,rfl⟩
  push_cast
  refine c7 (fun h=>?_) (fun h=>?_)
  ·simp only [decide_eq_true_eq] at h
   push_cast
   refine d9 (az9 i ⟨i6.1,h⟩) rfl trivial ?_
   push_cast [Ei.v,Ei.rv]
   refine ⟨by kernel_rfl,c7 (fun h'=>?_) (fun h'=>?_)⟩
   ·have e:uni i.toNat=l:=by
     simp only [Bool.and_eq_true,beq_iff_eq] at h';exact Ei.ext' h'.1 h'.2
    push_cast
    rw [← e,a9g _ (by omega),a7 (by omega),show ((i.toNat+1:Nat):Int)=i+1 by omega]
   ·have e:uni i.toNat≠l:=fun e=>by rw [e] at h'; simp at h'
    push_cast
    rw [a7 (by omega)];refine ⟨⟨i+1,by omega,fun j hj'=>?_,rfl⟩,by omega⟩;by_cases hji:(j:Int)=i
    ·rw [show j=i.toNat by omega]; exact e
    ·exact hj j (by omega)
  ·have hi:i=6:=by simp at h; omega
   subst hi
   push_cast
   rw [bdn l fun j h6=>hj j (by omega)]
   rfl
theorem bgm (n:Int):a8 P0 201 [int .i64 n] [] (bl (decide (-512≤n∧n≤511))) []:=by
 refine anh rfl (by decide) ?_
 push_cast [ajz,zaa]
 refine la ?_;by_cases h1:-512≤n<;>by_cases h2:n<512<;>simp [h1,h2]<;>omega
def ck (r:Nat) (z:Ei) (i:Nat):List AV:=(zcl 13).map fun j=>int .i64 (if i<j∧j≤r then (dg (anc (r-j) z):Int) else 0)
theorem xr (r:Nat) (z:Ei) (i:Nat):(ck r z i).length=13:=by simp [ck]
theorem a54 (r:Nat) (z:Ei):ck r z r=[int .i64 0,int .i64 0,int .i64 0,int .i64 0,int .i64 0,int .i64 0,int .i64 0,int .i64 0,int .i64 0,int .i64 0,int .i64 0,int .i64 0,int .i64 0]:=by
 have:∀j,¬(r<j∧j≤r):=fun j=>by omega
 simp only [ck,this,if_false]
 rfl
theorem a55 (r:Nat) (z:Ei) (i:Nat) (h1:1≤i) (h2:i≤r) (hr:r≤12):d7 (ck r z i) i [int .i64 (dg (anc (r-i) z))]=ck r z (i-1):=by
 have hl:=xr r z i;apply List.ext_getElem
 ·simp [d7,hl,xr]; omega
 ·intro j j1 j2;rw [xr] at j2;have e:∀(k:Nat) (hk:k<(ck r z i).length),(ck r z i)[k]=int .i64 (if i<k∧k≤r then (dg (anc (r-k) z):Int) else 0):=fun k hk=>by simp [ck]
  have e':∀(k:Nat) (hk:k<(ck r z (i-1)).length),(ck r z (i-1))[k]=int .i64 (if i-1<k∧k≤r then (dg (anc (r-k) z):Int) else 0):=fun k hk=>by simp [ck]
  rw [e'];have hm:min i 13=i:=by omega
  simp only [d7,List.getElem_append,zai,List.length_take,List.length_singleton,hl,List.getElem_take,List.getElem_drop,e,hm];by_cases c1:j<i
  ·rw [dif_pos (by omega),dif_pos c1,if_neg (by omega),if_neg (by omega)]
  ·by_cases c2:j=i
   ·subst c2;rw [dif_pos (by omega),dif_neg (by omega),if_pos (by omega)];simp
   ·rw [dif_neg (by omega)];rw [show i+1+(j-(i+1))=j by omega];by_cases c3:j≤r
    ·rw [if_pos (by omega),if_pos (by omega)]
    ·rw [if_neg (by omega),if_neg (by omega)]
theorem a5o (f:Nat→Int) (l:List Nat):m5 (l.map fun j=>int .i64 (f j))=[]:=by
 induction l with
 | nil=>rfl
 | cons a l ih=>show x9 _++m5 _=[]; rw [ih]; rfl
theorem a8z (F:Ren) (f:Nat→Int) (l:List Nat):imL F (l.map fun j=>int .i64 (f j))=l.map fun j=>int .i64 (f j):=by
 induction l with
 | nil=>rfl
 | cons a l ih=>show imV F _::imL F _ = _; rw [ih]; rfl
theorem af9 (r:Nat) (z:Ei) (i:Nat):m5 (ck r z i)=[]:=a5o _ _
theorem aiy (F:Ren) (r:Nat) (z:Ei) (i:Nat):imL F (ck r z i)=ck r z i:=a8z F _ _
theorem a3m (r:Nat) (z:Ei) (i:Nat):List.take 13 (ck r z i)=ck r z i:=List.take_of_length_le (by rw [xr]; exact Nat.le_refl _)
def ad6 (r:Nat) (z:Ei) (i:Nat):List RV:=(zcl 13).map fun j=>.v (.int .i64 (if i<j∧j≤r then (dg (anc (r-j) z):Int) else 0))
theorem a7q (ob:Obs) (f:Nat→Int) (l:List Nat):rvs ob (l.map fun j=>int .i64 (f j))=some (l.map fun j=>.v (.int .i64 (f j)),[]):=by
 induction l with
 | nil=>rfl
 | cons a l ih=>show rvs ob (_::_) = _; simp only [rvs,AV.rv,ih]; rfl
theorem a7r (ob:Obs) (r:Nat) (z:Ei) (i:Nat):rvs ob (ck r z i)=some (ad6 r z i,[]):=a7q ob _ _
theorem a4y (r:Nat) (z:Ei) (i:Nat):ck r z i++List.drop 13 (ck r z i)=ck r z i:=by
 rw [List.drop_of_length_le (by rw [xr]; exact Nat.le_refl _),zac]
attribute [push_cast high] a7r a4y
attribute [push_cast high] af9 aiy a3m xr
theorem a9d (r:Nat) (z:Ei) (i:Nat) (h1:1≤i) (h2:i≤r) (hr:r≤12):List.take (0+i*1) (ck r z i)++[int .i64 (dgOf (lft (anc (r-i) z)))]++List.drop (0+i*1+1) (ck r z i)=ck r z (i-1):=by
 rw [← a55 r z i h1 h2 hr,d7,Nat.mul_one,zcq]
 rfl
def asa (q:Ei):Bool:=decide ((-512≤q.a∧q.a≤511)∧(-512≤q.b∧q.b≤511))
theorem a95 (r:Int) (z:Ei) (h:pi r z=true):a8 P0 162 [cel r z] [] (.tup [(anc r.toNat z).v,.r (.agg (ad6 r.toNat z 0)),bl (asa (anc r.toNat z))]) []:=by
 refine ar2 rfl (by decide) ?_;have h':=h;simp only [pi,decide_eq_true_eq] at h';simp only [an6,cel,push_cast,↓reduceIte,reduceCtorEq,zB,zE,zA,zS,zL,zD,zM];refine b9 (as':=[cel r z]) rfl ?_;refine a5 (bbo r z (h'.2.mono (by decide))) rfl trivial ?_;rw [h];simp only [push_cast,↓reduceIte,reduceCtorEq,zB,zE,zA,zS,zL,zD,zM];obtain ⟨⟨r0,r12⟩,hz⟩:=h'
 refine run_loop [(6,false),(5,false),(3,false),(2,false)] (fun vs pos los=>∃i:Int,(0≤i∧i≤r)∧vs=[int .i64 i,.ptr 2000000 0 0,.ptr 2000001 0 0,.ptr 2000002 0 0]∧pos=[]∧los=[.box [int .i64 (anc (r-i).toNat z).a,int .i64 (anc (r-i).toNat z).b],.box (ck r.toNat z i.toNat),.box [int .i64 0,int .i64 0]])
  (fun vs _ _=>match vs with | .r (.v (.int _ j))::_=>j.toNat | _=>0) rfl ?_ ?_
 ·simp only [push_cast,↓reduceIte,reduceCtorEq,zB,zE,zA,zS,zL,zD,zM];refine ⟨r,by omega,?_⟩;rw [a54,Int.sub_self];exact ⟨rfl,rfl⟩
 ·rintro vs pos los ⟨i,i6,rfl,rfl,rfl⟩;simp only [push_cast,↓reduceIte,reduceCtorEq,zB,zE,zA,zS,zL,zD,zM];refine c7 (fun h=>?_) (fun h=>?_)
  ·simp only [decide_eq_true_eq] at h;simp only [push_cast,↓reduceIte,reduceCtorEq,zB,zE,zA,zS,zL,zD,zM];have ha:=a6u (r-i).toNat hz (by decide);refine b9 (as':=[(anc (r-i).toNat z).v]) rfl ?_;refine a5 (bbk _ ha) rfl trivial ?_;simp only [Ei.v,Ei.rv,push_cast,↓reduceIte,reduceCtorEq,zB,zE,zA,zS,zL,zD,zM];refine u6 (as':=[(lft (anc (r-i).toNat z)).v]) rfl ?_;refine d9 (bdm _) rfl trivial ?_;have hst:=a9d r.toNat z i.toNat (by omega) (by omega) (by omega);rw [show r.toNat-i.toNat=(r-i).toNat by omega] at hst;have hpr:pr (anc (r-i).toNat z)=anc (r-(i-1)).toNat z:=by rw [← axy,show (r-i).toNat+1=(r-(i-1)).toNat by omega]
   simp only [Ei.v,Ei.rv,hst,push_cast,↓reduceIte,reduceCtorEq,zB,zE,zA,zS,zL,zD,zM];rw [show IntKind.i64.wrap (i-1)=i-1 from a7 (by omega),hpr];refine ⟨by omega,by omega,by kernel_rfl,⟨i-1,by omega,rfl,?_⟩,by omega⟩;rw [show (i-1).toNat=i.toNat-1 by omega]
  ·have hi:i=0:=by simp at h; omega
   subst hi;have ha:=a6u r.toNat hz (by decide);simp only [push_cast,↓reduceIte,reduceCtorEq,zB,zE,zA,zS,zL,zD,zM];rw [show (r-0).toNat=r.toNat by omega,show Int.toNat 0=0 from rfl];refine ⟨by kernel_rfl,?_⟩;refine d9 (bgm _) rfl trivial ?_;by_cases c:-512≤(anc r.toNat z).a∧(anc r.toNat z).a≤511
   ·rw [decide_eq_true c];simp only [push_cast,↓reduceIte,reduceCtorEq,zB,zE,zA,zS,zL,zD,zM];refine ⟨by kernel_rfl,?_⟩;refine d9 (bgm _) rfl trivial ?_;simp only [Ei.v,Ei.rv,push_cast,↓reduceIte,reduceCtorEq,zB,zE,zA,zS,zL,zD,zM];refine ⟨by kernel_rfl,?_⟩;simp [asa,c.1,c.2];kernel_rfl
   ·rw [decide_eq_false c];simp only [Ei.v,Ei.rv,push_cast,↓reduceIte,reduceCtorEq,zB,zE,zA,zS,zL,zD,zM];refine ⟨by kernel_rfl,?_⟩;simp only [asa,c,false_and,decide_false];exact ⟨by kernel_rfl,trivial⟩
theorem a1l {r:Int} {z:Ei} (h0:0≤r) (h:okc r.toNat z):pi r z=true∧asa (anc r.toNat z)=true:=by
 obtain ⟨h1,h2,h3,h4⟩:=h;simp only [pi,asa,decide_eq_true_eq];exact ⟨⟨⟨h0,by omega⟩,h2⟩,h3,h4⟩
theorem bjc (r:Int) (z:Ei) (h0:0≤r) (h:okc r.toNat z):a8 P0 166 [cel r z] [] (bl true) []:=by
 refine ath rfl (by decide) ?_
 push_cast [ar3,cel,zaa]
 refine b9 (as':=[cel r z]) rfl ?_;refine a5 (a95 r z (a1l h0 h).1) rfl trivial ?_;rw [(a1l h0 h).2]
 push_cast [Ei.v,Ei.rv]
 refine ⟨by simp [ad6],?_⟩;simp only [ad6,List.map_map,List.all_map];rw [List.all_eq_true];intro x hx
 rfl
theorem bjd (x y r:Int) (h:inW x y) (hr:0≤r∧r≤12):a8 P0 114 [int .i64 x,int .i64 y,int .i64 r] [] (.tup [cel r (i5 x y r.toNat),int .i64 0]) []:=by
 refine ati rfl (by decide) ?_
 push_cast [ar4,cel,zaa]
 refine a5 (bai x y) rfl trivial ?_;rw [decide_eq_true h]
 push_cast
 refine a5 (bf4 x y r h hr) rfl trivial ?_
 push_cast [Ei.v,Ei.rv]

theorem amh {a b k:Nat} (h:a<2^k):a ||| b*2^k=b*2^k+a:=by
 rw [Nat.or_comm,← Nat.shiftLeft_eq,Nat.shiftLeft_add_eq_or_of_lt h]
theorem p8 (n:Nat):0<8^n:=zca (by decide)

def aho:Mk P0 f164:={ x:=_ }
theorem akr:d5 164 1 aho:=c8 func164
def aa3:Mk P0 f81:={ x:=_ }
theorem afp:d5 81 1 aa3:=c8 func81
def aa1:Mk P0 f80:={ x:=_ }
theorem afn:d5 80 1 aa1:=c8 func80
def an:Mk P0 f41:={ x:=_ }
theorem ag4:d5 41 1 an:=c8 func41
def acv:Mk P0 f42:={ x:=_ }
theorem ag5:d5 42 1 acv:=c8 func42
def apz:Mk P0 f116:={ x:=_ }
theorem asc:d5 116 1 apz:=c8 func116
def aj4:Mk P0 f75:={ x:=_ }
theorem aoa:d5 75 1 aj4:=c8 func75
def aj7:Mk P0 f117:={ x:=_ }
theorem aob:d5 117 1 aj7:=c8 func117
def ap0:Mk P0 f66:={ x:=_ }
theorem asd:d5 66 1 ap0:=c8 func66
def ahd:Mk P0 f74:={ x:=_ }
theorem aj6:d5 74 1 ahd:=c8 func74
def aa4:Mk P0 f26:={ x:=_ }
theorem afq:d5 26 4 aa4:=c8 func26
structure Til where
 z:Int
 x:Int
 y:Int
 r:Int
def Til.v (t:Til):AV:=.r (.agg [.v (.int .i64 t.z),.v (.int .i64 t.x),.v (.int .i64 t.y),.v (.int .i64 t.r)])
def Til.ok (t:Til):Prop:=in64 t.z∧in64 t.x∧in64 t.y∧in64 t.r
def tis (t:Til):Bool:=decide (0≤t.z∧t.z≤18∧0≤t.r∧t.r≤12∧0≤t.x∧t.x<2^t.z.toNat∧0≤t.y∧t.y<2^t.z.toNat)
theorem a14 (t:Til):a8 P0 116 [t.v] [] (bl (tis t)) []:=by
 refine asc rfl (by decide) ?_
 push_cast [apz,Til.v,zaa]
 repeat refine And.intro (by simp +contextual) ?_
 refine c7 (fun h=>?_) (fun h=>?_)
 ·push_cast
  refine la ?_;simp [tis] at h ⊢;omega
 ·have hz:0≤t.z∧t.z≤18∧0≤t.r∧t.r≤12:=by simp at h; omega
  push_cast
  refine And.intro ?_ ?_
  ·rw [IntKind.wrap_u64]; omega
  rw [a7k _ hz.1 (by omega)]
  repeat refine And.intro (by simp +contextual) ?_
  refine la ?_;simp [tis];omega
theorem a3h (t:Til) (h0:0≤t.z) (h1:t.z≤18):a8 P0 75 [t.v] [] (int .i64 (2^(18-t.z).toNat)) []:=by
 refine aoa rfl (by decide) ?_
 push_cast [aj4,Til.v,zaa]
 rw [show IntKind.i64.wrap (18-t.z)=18-t.z from a7 (by omega)];refine And.intro ?_ ?_
 ·rw [IntKind.wrap_u64]; omega
 ·rw [a7k _ (by omega) (by omega)]
def rok (r:Int):Bool:=decide (0≤r∧r≤12)
theorem ba3 (r:Int) (hr:in64 r):a8 P0 164 [int .i64 r] [] (.tup [int .i64 (if rok r then 169*7^(12-r).toNat else 0),bl (rok r)]) []:=by
 refine akr rfl (by decide) ?_
 push_cast [aho,zaa]
 refine a5 (as5 r) rfl trivial ?_
 push_cast
 refine c7 (fun h=>?_) (fun h=>?_)
 ·push_cast
  have:rok r=false:=by simp [rok] at h ⊢; omega
  simp [this]
 ·have h:rok r=true:=by simpa [rok] using h
  have h':0≤r∧r≤12:=by simpa [rok] using h
  push_cast
  rw [show IntKind.i64.wrap (12-r)=12-r from a7 (by omega)];have hp:=p7 (12-r).toNat (by omega);have ht:=bah 7 (12-r) (by decide) (by unfold in64; omega);rw [if_neg (show ¬12-r<0 by omega)] at ht;refine a5 ht rfl trivial ?_
  push_cast [sm,if_pos (show in64 (7^(12-r).toNat) by unfold in64; omega)]
  rw [a7 (by omega)];simp [h]
theorem bbp (k:Int) (h0:0≤k) (h1:k≤12):a8 P0 81 [int .i64 k] [] (int .i64 (7^k.toNat)) []:=by
 refine afp rfl (by decide) ?_
 push_cast [aa3,zaa]
 have hp:=p7 k.toNat (by omega);have ht:=bfd 7 k (by decide) (by unfold in64; omega);rw [if_neg (show ¬k<0 by omega)] at ht;refine a5 ht rfl trivial ?_
 push_cast [sm,if_pos (show in64 (7^k.toNat) by unfold in64; omega)]
theorem ay4 (k:Int) (h0:0≤k) (h1:k≤36):a8 P0 80 [int .i64 k] [] (int .i64 (2^k.toNat)) []:=by
 refine afn rfl (by decide) ?_
 push_cast [aa1,zaa]
 refine ⟨by omega,?_⟩;rw [bjn k h0 h1]
def fine (t:Til):Bool:=tis t&&decide (169*7^(12-t.r).toNat<16*2^(18-t.z).toNat*(2:Int)^(18-t.z).toNat)
theorem bgz (t:Til) (ht:t.ok):a8 P0 117 [t.v] [] (bl (fine t)) []:=by
 refine aob rfl (by decide) ?_
 push_cast [aj7,Til.v,zaa]
 refine a5 (ba3 t.r ht.2.2.2) rfl trivial ?_
 push_cast
 refine u6 (as':=[t.v]) rfl ?_;refine d9 (a14 t) rfl trivial ?_;cases hti:tis t with
 | false=>
  push_cast
  exact ⟨by kernel_rfl,by simp [fine,hti]⟩
 | true=>
  have hr:0≤t.z∧t.z≤18∧0≤t.r∧t.r≤12:=by simp [tis] at hti; omega
  have hrok:rok t.r=true:=by simp [rok]; omega
  have hp:=p2 (18-t.z).toNat (by omega);have hu:=a3h t hr.1 hr.2.1
  push_cast [hrok]
  refine u6 (as':=[t.v]) rfl ?_;refine d9 hu rfl trivial ?_
  push_cast
  refine u6 (as':=[t.v]) rfl ?_;refine d9 hu rfl trivial ?_
  push_cast
  refine ⟨by kernel_rfl,?_⟩;have hq:(18-t.z).toNat≤18:=by omega
  have hq2:(2:Int)^(18-t.z).toNat≤262144:=by
   have h1:2^(18-t.z).toNat≤2^18:=zck (by decide) hq;have h3:((2^(18-t.z).toNat:Nat):Int)=(2:Int)^(18-t.z).toNat:=by simp
   omega
  rw [show IntKind.i64.wrap (16*2^(18-t.z).toNat)=16*2^(18-t.z).toNat from a7 (by omega)];have hm:16*(2:Int)^(18-t.z).toNat*2^(18-t.z).toNat≤4194304*262144:=Int.mul_le_mul (by omega) hq2 (by omega) (by omega);have hm0:0≤16*(2:Int)^(18-t.z).toNat*2^(18-t.z).toNat:=zcn (by omega) (by omega);rw [a7 (by omega)];refine la ?_;simp [fine,hti]
theorem bfv (t:Til) (ht:t.ok):a8 P0 66 [t.v] [] (int .i64 (if tis t then (if fine t then 14 else 0) else 1)) []:=by
 refine asd rfl (by decide) ?_
 push_cast [ap0,Til.v,zaa]
 refine b9 (as':=[t.v]) rfl ?_;refine a5 (a14 t) rfl trivial ?_;cases hti:tis t with
 | false=>
  push_cast
 | true=>
  push_cast
  refine b9 (as':=[t.v]) rfl ?_;refine a5 (bgz t ht) rfl trivial ?_;cases hf:fine t<;>push_cast
theorem awc (t:Til) (hi:tis t=true):a8 P0 74 [t.v] [] (.tup [int .i64 (t.x*2^(30-t.z).toNat),int .i64 (t.y*2^(30-t.z).toNat),int .i64 (2^(30-t.z).toNat)]) []:=by
 refine aj6 rfl (by decide) ?_
 push_cast [ahd,Til.v,zaa]
 refine b9 (as':=[t.v]) rfl ?_;refine a5 (a14 t) rfl trivial ?_;rw [hi]
 push_cast
 simp only [tis,decide_eq_true_eq] at hi;obtain ⟨z0,z1,r0,r1,x0,x1,y0,y1⟩:=hi;have hp:=p2 t.z.toNat (by omega);have hq:=p2 (30-t.z).toNat (by omega)
 have hpq:(2:Int)^t.z.toNat*2^(30-t.z).toNat=1073741824:=by
  rw [← Int.pow_add,show t.z.toNat+(30-t.z).toNat=30 by omega]; rfl
 have hx:t.x*2^(30-t.z).toNat≤1073741824:=by rw [← hpq]; exact zcu (by omega) (by omega)
 have hy:t.y*2^(30-t.z).toNat≤1073741824:=by rw [← hpq]; exact zcu (by omega) (by omega)
 have hx0:0≤t.x*2^(30-t.z).toNat:=zcn x0 (by omega);have hy0:0≤t.y*2^(30-t.z).toNat:=zcn y0 (by omega);rw [show IntKind.i64.wrap (30-t.z)=30-t.z from a7 (by omega),a7k _ (by omega) (by omega)];refine ⟨by rw [IntKind.wrap_u64]; omega,by kernel_rfl,?_⟩;rw [a7 (by omega),a7 (by omega)]



theorem aj9 {a:Nat} (h:a<18446744073709551616):IntKind.u64.wrap (a:Int)=a:=by rw [IntKind.wrap_u64]; omega
theorem ofI (a:Nat) (h:a<18446744073709551616):(zab IntKind.u64.bits (a:Int)).toNat=a:=by
 rw [show IntKind.u64.bits=64 from rfl,BitVec.toNat_ofInt];omega
theorem a1k {a b:Nat} (ha:a<18446744073709551616) (hb:b<18446744073709551616):IntKind.u64.wrap (zab IntKind.u64.bits (a:Int) ||| zab IntKind.u64.bits (b:Int)).toNat=((a ||| b:Nat):Int):=by
 rw [BitVec.toNat_or,ofI a ha,ofI b hb];exact aj9 (Nat.or_lt_two_pow (n:=64) ha hb)
theorem bjh {a n:Nat} (m:Int) (hm:m=2^n-1) (hn:n≤62) (ha:a<18446744073709551616):IntKind.u64.wrap (zab IntKind.u64.bits (a:Int) &&& zab IntKind.u64.bits m).toNat=((a%2^n:Nat):Int):=by
 have h1:2^n≤2^62:=zck (by decide) hn;have h2:=Nat.two_pow_pos n;have h3:((2^n:Nat):Int)=(2:Int)^n:=by simp
 have h4:m=((2^n-1:Nat):Int):=by rw [hm,← h3]; omega
 rw [h4,BitVec.toNat_and,ofI a ha,ofI _ (by omega),zcy];exact aj9 (Nat.lt_of_le_of_lt (Nat.mod_le _ _) ha)
theorem au3 {a k:Nat} {s:Int} (hs:s.toNat=k) (hk:k≤63) (h:a*2^k<18446744073709551616):IntKind.u64.wrap ((a:Int)*2^min s.toNat IntKind.u64.bits)=((a*2^k:Nat):Int):=by
 rw [hs,show min k IntKind.u64.bits=k from zcr (by simp [IntKind.bits]; omega),show (a:Int)*2^k=((a*2^k:Nat):Int) by simp];exact aj9 h
def uw (n:Nat):AV:=int .u64 n
def as4 (w:Nat):Bool:=decide (w/1152921504606846976=1)&&decide (ei w≤12)&&(zcl 13).all fun i=>decide (i=0)||(decide (dgt w i=7) == decide (ei w<i))
theorem awz (w:Nat):as4 w=true↔isW w:=by
 simp only [as4,isW,Bool.and_eq_true,decide_eq_true_eq,List.all_eq_true,List.mem_range,Bool.or_eq_true,beq_iff_eq,decide_eq_decide];constructor
 ·rintro ⟨⟨h1,h2⟩,h3⟩;refine ⟨h1,h2,fun i i1 i2=>?_⟩;rcases h3 i (by omega) with h | h
  ·omega
  ·exact h
 ·rintro ⟨h1,h2,h3⟩;refine ⟨⟨h1,h2⟩,fun i hi=>?_⟩;by_cases h0:i=0
  ·exact .inl h0
  ·exact .inr (h3 i (by omega) (by omega))
theorem aug {r:Nat} {z:Ei} (h:okc r z):as4 (ao r z)=true:=(awz _).2 (an7 r z h).1
theorem be5 {a k:Nat} {s:Int} (hs:s.toNat=k) (hk:k≤63):(a:Int).fdiv (2^min s.toNat IntKind.u64.bits)=((a/2^k:Nat):Int):=by
 rw [hs,show min k IntKind.u64.bits=k from zcr (by simp [IntKind.bits]; omega)];rw [zcs _ (by have:=Int.pow_pos (n:=2) (m:=k) (by decide); omega)];simp
theorem amf {a k n:Nat} {s m:Int} (hs:s.toNat=k) (hk:k≤63) (hm:m=2^n-1) (hn:n≤62) (ha:a<18446744073709551616) :
  IntKind.u64.wrap (zab IntKind.u64.bits ((a:Int).fdiv (2^min s.toNat IntKind.u64.bits)) &&& zab IntKind.u64.bits m).toNat=((a/2^k%2^n:Nat):Int):=by
 rw [be5 hs hk,bjh m hm hn (Nat.lt_of_le_of_lt (Nat.div_le_self _ _) ha)]
theorem a0c (w:Nat) (i:Nat) (hi:i≤12):(ah w i).In 1000000000000:=by
 have h:∀i:Nat,∀n:Int,(ah w i).In n→1≤n→(ah w (i+1)).In (5*n):=fun i n hn h1=>by
  have hd:∀d,(uni d).In 1:=fun d=>by unfold uni; split<;>unfold Ei.In<;>decide
  have hu:=hd (dgt w (i+1)-1);unfold Ei.In at hn hu ⊢;rw [ah,ad8];split<;>simp only [Ei.mul,fv,Ei.add]<;>omega
 have h0:(ah w 0).In 512:=by
  unfold Ei.In ah a2w;dsimp only;omega
 have h1:=h 0 _ h0 (by decide);have h2:=h 1 _ h1 (by decide);have h3:=h 2 _ h2 (by decide);have h4:=h 3 _ h3 (by decide);have h5:=h 4 _ h4 (by decide);have h6:=h 5 _ h5 (by decide);have h7:=h 6 _ h6 (by decide);have h8:=h 7 _ h7 (by decide);have h9:=h 8 _ h8 (by decide);have h10:=h 9 _ h9 (by decide);have h11:=h 10 _ h10 (by decide);have h12:=h 11 _ h11 (by decide);rcases (show i=0∨i=1∨i=2∨i=3∨i=4∨i=5∨i=6∨i=7∨i=8∨i=9∨i=10∨i=11∨i=12 by omega) with rfl | rfl | rfl | rfl | rfl | rfl | rfl | rfl | rfl | rfl | rfl | rfl | rfl
 ·exact h0.mono (by decide)
 ·exact h1.mono (by decide)
 ·exact h2.mono (by decide)
 ·exact h3.mono (by decide)
 ·exact h4.mono (by decide)
 ·exact h5.mono (by decide)
 ·exact h6.mono (by decide)
 ·exact h7.mono (by decide)
 ·exact h8.mono (by decide)
 ·exact h9.mono (by decide)
 ·exact h10.mono (by decide)
 ·exact h11.mono (by decide)
 ·exact h12.mono (by decide)

def aaw:Mk P0 f163:={ x:=_ }
theorem afi:d5 163 3 aaw:=c8 func163
def anz:Mk P0 f115:={ x:=_ }
theorem arj:d5 115 1 anz:=c8 func115
def bem (x y:Int) (r:Nat):Nat:=ao r (i5 x y r)
def yt (w i:Nat):Nat:=w/8^(13-i)*8^(13-i)
theorem a0p (w i:Nat) (h1:1≤i) (hi:i≤12):yt w i ||| dgt w i*2^(36-3*i)=yt w (i+1):=by
 unfold yt dgt;have e1:13-(i+1)=12-i:=by omega
 have e2:13-i=12-i+1:=by omega
 have e3:2^(36-3*i)=8^(12-i):=by rw [show (8:Nat)=2^3 from rfl,← Nat.pow_mul]; congr 1; omega
 have e4:(8:Nat)^(12-i+1)=2^(3*(12-i+1)):=by rw [show (8:Nat)=2^3 from rfl,← Nat.pow_mul]
 rw [e1,e2,e3,Nat.or_comm,show w/8^(12-i+1)*8^(12-i+1)=w/8^(12-i+1)*2^(3*(12-i+1)) by rw [e4],amh]
 ·rw [← e4,zcj,← zcv];have hq:=Nat.div_add_mod (w/8^(12-i)) 8;generalize w/8^(12-i)=q at *;generalize 8^(12-i)=m at *;rw [zco m 8,← zcd,← Nat.add_mul,zco (q/8) 8,hq]
 ·rw [← e4,zcj,zco];exact Nat.mul_lt_mul_of_pos_left (Nat.mod_lt _ (by decide)) (p8 _)
theorem a3a (w:Nat):yt w 13=w:=by simp [yt]
theorem a29 (r:Nat) (z:Ei) (hr:r≤12) (A B:Nat) (hA:A<1024) (hB:B<1024) (hA':(anc r z).a+512=A) (hB':(anc r z).b+512=B) :
  (((1152921504606846976 ||| r*2^56) ||| A*2^46) ||| B*2^36)=yt (ao r z) 1:=by
 unfold yt;rw [show 13-1=12 by rfl,show (8:Nat)^12=68719476736 by decide,ah9 r z hr,rq,hA',hB',zcb,zcb]
 have s1:1152921504606846976 ||| r*2^56=(16+r)*2^56:=by
  rw [Nat.or_comm,show (1152921504606846976:Nat)=1*2^60 by decide,amh (show r*2^56<2^60 by omega)];omega
 have s2:(16+r)*2^56 ||| A*2^46=((16+r)*1024+A)*2^46:=by
  rw [Nat.or_comm,amh (show A*2^46<2^56 by omega)];omega
 have s3:((16+r)*1024+A)*2^46 ||| B*2^36=(((16+r)*1024+A)*1024+B)*2^36:=by
  rw [Nat.or_comm,amh (show B*2^36<2^46 by omega)];omega
 rw [s1,s2,s3]
theorem a62 {w:Nat} (h:w<18446744073709551616) (i:Nat):yt w i<18446744073709551616:=Nat.lt_of_le_of_lt (Nat.div_mul_le_self _ _) h
theorem bae (w d r:Nat) (hw:w<18446744073709551616) (hd:d<8) (h1:1≤r) (hr:r≤12):a8 P0 163 [.ptr 1000000 0 0,int .i64 r,int .u64 d] [.box [uw w]] (.tup []) [.box [uw (w ||| d*2^(36-3*r))]]:=by
 refine afi rfl (by simp) ?_
 push_cast [aaw,uw,zae,zaa]
 have e1:IntKind.i64.wrap ((r:Int)-1)=(r:Int)-1:=a7 (by omega);have e2:IntKind.i64.wrap (3*((r:Int)-1))=3*((r:Int)-1):=a7 (by omega);have e3:IntKind.i64.wrap (33-3*((r:Int)-1))=((36-3*r:Nat):Int):=by rw [a7 (by omega)]; omega
 have hp:2^(36-3*r)≤2^33:=zck (by decide) (by omega);have hm:d*2^(36-3*r)≤7*2^(36-3*r):=Nat.mul_le_mul_right _ (by omega);rw [e1,e2,e3,show IntKind.u64.wrap ((36-3*r:Nat):Int)=((36-3*r:Nat):Int) from aj9 (by omega),au3 (zcb _) (by omega) (by omega),a1k hw (by omega)]
 repeat refine And.intro (by first | decide | omega | exact fun _=>by decide | (simp +contextual; done) | kernel_rfl) ?_
 rfl
theorem a9f (r:Nat) (z:Ei) (l:List AV) (h:l.length≤13):List.map AV.r (ad6 r z 0)++List.drop (0+(ad6 r z 0).length) l=ck r z 0:=by
 rw [List.drop_of_length_le (by simp [ad6]; omega),zac];simp [ad6,ck]
theorem a9e (r:Nat) (z:Ei) (j:Nat) (h1:1≤j) (h2:j≤r) (hr:r≤12):(ck r z 0).getD j AV.undef=int .i64 (dg (anc (r-j) z)):=by
 rw [List.getD_eq_getElem?_getD];unfold ck;rw [List.getElem?_map,List.getElem?_range (by omega)];simp only [zah,zad];rw [if_pos (by omega)]
theorem bel (r:Int) (z:Ei) (h0:0≤r) (hk:okc r.toNat z):a8 P0 115 [cel r z] [] (.tup [uw (ao r.toNat z),int .i64 0]) []:=by
 refine arj rfl (by decide) ?_;obtain ⟨hs,hbb⟩:=a1l h0 hk;have hwl:=asb r.toNat z hk;obtain ⟨r12,hz,ha,hb⟩:=id hk;simp only [anz,cel,push_cast,↓reduceIte,reduceCtorEq,zB,zE,zA,zS,zL,zD,zM];refine b9 (as':=[cel r z]) rfl ?_;refine a5 (a95 r z hs) rfl trivial ?_;rw [hbb];simp only [Ei.v,Ei.rv,push_cast,↓reduceIte,reduceCtorEq,zB,zE,zA,zS,zL,zD,zM];obtain ⟨A,hA⟩:∃A:Nat,(anc r.toNat z).a+512=A:=⟨((anc r.toNat z).a+512).toNat,by omega⟩
 obtain ⟨B,hB⟩:∃B:Nat,(anc r.toNat z).b+512=B:=⟨((anc r.toNat z).b+512).toNat,by omega⟩
 have hone:=a29 r.toNat z r12 A B (by omega) (by omega) hA hB;obtain ⟨R,rfl⟩:∃R:Nat,r=R:=⟨r.toNat,by omega⟩
 rw [zcb] at *;rw [hA,hB,show IntKind.i64.wrap (A:Int)=A from a7 (by omega),show IntKind.i64.wrap (B:Int)=B from a7 (by omega),aj9 (show A<18446744073709551616 by omega),aj9 (show B<18446744073709551616 by omega),aj9 (show R<18446744073709551616 by omega)];rw [au3 (k:=56) rfl (by decide) (by omega),au3 (k:=46) rfl (by decide) (by omega),au3 (k:=36) rfl (by decide) (by omega),show (1152921504606846976:Int)=((1152921504606846976:Nat):Int) from rfl];have l1:1152921504606846976 ||| R*2^56<18446744073709551616:=Nat.or_lt_two_pow (n:=64) (by omega) (by omega);have l2:1152921504606846976 ||| R*2^56 ||| A*2^46<18446744073709551616:=Nat.or_lt_two_pow (n:=64) l1 (by omega)
 rw [a1k (by omega) (by omega),a1k l1 (by omega),a1k l2 (by omega),hone];have hdl:=xr R z 0;simp only [a9f R z [AV.r (RV.v (Value.int IntKind.i64 0)),AV.r (RV.v (Value.int IntKind.i64 0)),AV.r (RV.v (Value.int IntKind.i64 0)),AV.r (RV.v (Value.int IntKind.i64 0)),AV.r (RV.v (Value.int IntKind.i64 0)),AV.r (RV.v (Value.int IntKind.i64 0)),AV.r (RV.v (Value.int IntKind.i64 0)),AV.r (RV.v (Value.int IntKind.i64 0)),AV.r (RV.v (Value.int IntKind.i64 0)),AV.r (RV.v (Value.int IntKind.i64 0)),AV.r (RV.v (Value.int IntKind.i64 0)),AV.r (RV.v (Value.int IntKind.i64 0)),AV.r (RV.v (Value.int IntKind.i64 0))] (by simp)]
 repeat refine And.intro (by first | decide | (simp [ad6]; done) | kernel_rfl) ?_
 refine run_loop [(9,false),(1,false),(5,false),(7,false),(8,false)] (fun vs pos los=>∃i:Nat,(1≤i∧i≤13)∧vs=[int .i64 i,.ptr 2000000 0 0,.ptr 2000001 0 0,.ptr 2000002 0 0,.fn (.func 163) [.ptr 2000002 0 0] 1]∧pos=[] ∧
  los=[.box [int .i64 R,int .i64 z.a,int .i64 z.b],.box (ck R z 0),.box [uw (yt (ao R z) i)]])
  (fun vs _ _=>match vs with | .r (.v (.int _ j))::_=>(13-j).toNat | _=>0) rfl ?_ ?_
 ·simp only [af9,aiy,uw,push_cast,↓reduceIte,reduceCtorEq,zB,zE,zA,zS,zL,zD,zM];exact ⟨1,by omega,rfl,rfl⟩
 ·rintro vs pos los ⟨i,hi,rfl,rfl,rfl⟩;simp only [uw,push_cast,↓reduceIte,reduceCtorEq,zB,zE,zA,zS,zL,zD,zM];refine c7 (fun h=>?_) (fun h=>?_)
  ·have hi12:i≤12:=by simp at h; omega
   have hul:=a62 hwl i;have hst:=a0p (ao R z) i hi.1 hi12;simp only [push_cast,↓reduceIte,reduceCtorEq,zB,zE,zA,zS,zL,zD,zM];refine c7 (fun hc=>?_) (fun hc=>?_)
   ·have hc':R<i:=by simp at hc; omega
    simp only [push_cast,↓reduceIte,reduceCtorEq,zB,zE,zA,zS,zL,zD,zM];refine ⟨by kernel_rfl,?_⟩;refine b9 (as':=[.ptr 1000000 0 0,int .i64 i,int .u64 (7:Nat)]) rfl ?_;refine a5 (bae (yt (ao R z) i) 7 i hul (by decide) hi.1 hi12) rfl ⟨rfl,trivial⟩ ?_;rw [apx R i z hc' hi12] at hst;rw [hst];simp only [af9,aiy,uw,push_cast,↓reduceIte,reduceCtorEq,zB,zE,zA,zS,zL,zD,zM];rw [show IntKind.i64.wrap ((i:Int)+1)=((i+1:Nat):Int) by rw [a7 (by omega)]; omega];exact ⟨⟨i+1,by omega,rfl,rfl⟩,by omega⟩
   ·have hc':i≤R:=by simp at hc; omega
    have hd:=dg_lt (anc (R-i) z);simp only [zcb,zcq,Nat.mul_one,a9e R z i hi.1 hc' r12,hdl,push_cast,↓reduceIte,reduceCtorEq,zB,zE,zA,zS,zL,zD,zM];rw [aj9 (show dg (anc (R-i) z)<18446744073709551616 by omega)]
    repeat refine And.intro (by first | decide | omega | exact fun _=>by decide | (simp +contextual; done) | kernel_rfl) ?_
    refine a5 (bae (yt (ao R z) i) (dg (anc (R-i) z)) i hul (by omega) hi.1 hi12) rfl ⟨rfl,trivial⟩ ?_;rw [an8 R i z r12 hi.1 hc'] at hst;rw [hst];simp only [af9,aiy,uw,push_cast,↓reduceIte,reduceCtorEq,zB,zE,zA,zS,zL,zD,zM];rw [show IntKind.i64.wrap ((i:Int)+1)=((i+1:Nat):Int) by rw [a7 (by omega)]; omega];exact ⟨⟨i+1,by omega,rfl,rfl⟩,by omega⟩
  ·have hi13:i=13:=by simp at h; omega
   subst hi13;simp only [a3a,uw,push_cast,↓reduceIte,reduceCtorEq,zB,zE,zA,zS,zL,zD,zM]


theorem bce (t:Til):a8 P0 41 [t.v] [] (bl (tis t)) []:=by
 refine ag4 rfl (by decide) ?_;by_cases h1:0≤t.z∧t.z≤18
 ·have e1:decide (t.z≥0)=true:=by simp [h1.1]
  have e2:decide (t.z≤18)=true:=by simp [h1.2]
  have hs:=ay4 t.z h1.1 (by omega);by_cases h2:0≤t.x
  ·have e3:decide (t.x≥0)=true:=by simp [h2]
   by_cases h3:t.x<2^t.z.toNat
   ·have e4:decide (t.x<2^t.z.toNat)=true:=by simp [h3]
    by_cases h4:0≤t.y
    ·have e5:decide (t.y≥0)=true:=by simp [h4]
     push_cast [an,Til.v,zaa,e1,e2,e3]
     refine d9 hs rfl trivial ?_
     push_cast [e4,e5]
     refine d9 hs rfl trivial ?_
     push_cast [e4,e5]
     refine ⟨by kernel_rfl,?_⟩;refine la ?_;simp [tis];omega
    ·have e5:decide (t.y≥0)=false:=by simp; omega
     have e6:tis t=false:=by simp [tis]; omega
     push_cast [an,Til.v,zaa,e1,e2,e3]
     refine d9 hs rfl trivial ?_
     push_cast [e4,e5,e6]
     (show _=true); kernel_rfl
   ·have e4:decide (t.x<2^t.z.toNat)=false:=by simp; omega
    have e6:tis t=false:=by simp [tis]; omega
    push_cast [an,Til.v,zaa,e1,e2,e3]
    refine d9 hs rfl trivial ?_
    push_cast [e4,e6]
    (show _=true); kernel_rfl
  ·have e3:decide (t.x≥0)=false:=by simp; omega
   have e6:tis t=false:=by simp [tis]; omega
   push_cast [an,Til.v,zaa,e1,e2,e3,e6]
   (show _=true); kernel_rfl
 ·have e6:tis t=false:=by simp [tis]; omega
  by_cases h0:0≤t.z
  ·have e1:decide (t.z≥0)=true:=by simp [h0]
   have e2:decide (t.z≤18)=false:=by simp; omega
   push_cast [an,Til.v,zaa,e1,e2,e6]
   (show _=true); kernel_rfl
  ·have e1:decide (t.z≥0)=false:=by simp; omega
   push_cast [an,Til.v,zaa,e1,e6]
   (show _=true); kernel_rfl

theorem bch (t:Til) (ht:t.ok):a8 P0 42 [t.v] [] (bl (fine t)) []:=by
 refine ag5 rfl (by decide) ?_
 push_cast [acv,Til.v,zaa]
 refine u6 (as':=[t.v]) rfl ?_;refine d9 (bce t) rfl trivial ?_;cases hti:tis t with
 | false=>
  push_cast
  exact ⟨by kernel_rfl,by simp [fine,hti]⟩
 | true=>
  have hr:0≤t.z∧t.z≤18∧0≤t.r∧t.r≤12:=by simp [tis] at hti; omega
  have w1:IntKind.i64.wrap (12-t.r)=12-t.r:=a7 (by omega);have w2:IntKind.i64.wrap (18-t.z)=18-t.z:=a7 (by omega);have w3:IntKind.i64.wrap (2*(18-t.z))=2*(18-t.z):=a7 (by omega);have h7:=p7 (12-t.r).toNat (by omega);have h2:=p2 (2*(18-t.z)).toNat (by omega)
  have hq:(2:Int)^(2*(18-t.z)).toNat=2^(18-t.z).toNat*2^(18-t.z).toNat:=by
   rw [← Int.pow_add]; congr 1; omega
  push_cast [w1,w2,w3]
  refine d9 (bbp (12-t.r) (by omega) (by omega)) rfl trivial ?_
  push_cast [w1,w2,w3]
  refine d9 (ay4 (2*(18-t.z)) (by omega) (by omega)) rfl trivial ?_
  push_cast [w1,w2,w3]
  refine ⟨by kernel_rfl,?_⟩;rw [a7 (by omega),a7 (by omega)];refine la ?_;rw [hq,← Int.mul_assoc];simp [fine,hti]
theorem amb (a n:Int) (hn:0<n):-n<a.tmod n∧a.tmod n<n∧(a.tmod n+n)%n=a%n:=by
 have h0:=zbz a (show n≠0 by omega);have h1:=zby a hn;rw [Int.tmod_eq_emod];split
 ·refine ⟨by omega,by omega,?_⟩;rw [show a%n-((0:Nat):Int)+n=a%n+n by omega,Int.add_emod_right,Int.emod_emod]
 ·rename_i h;have h2:a%n≠0:=fun h3=>h (.inr (Int.dvd_of_emod_eq_zero h3));refine ⟨by omega,by omega,?_⟩;rw [show a%n-(n.natAbs:Int)+n=a%n by omega,Int.emod_emod]
def fb (z:Int):Nat→Nat
 | 0=>0
 | n+1=>if fine ⟨z,0,0,(n+1:Nat)⟩ then fb z n else n+1
def v4 (x y z r:Int):Til:=⟨z%19,(x%1073741824)/2^(30-z%19).toNat,(y%1073741824)/2^(30-z%19).toNat,fb (z%19) (r%13).toNat⟩
theorem alz (z:Int):∀n,fb z n≤n
 | 0=>Nat.le_refl _
 | n+1=>by
  have:=alz z n;unfold fb;split<;>omega
theorem avo (x y z r:Int):tis (v4 x y z r)=true:=by
 have h1:=alz (z%19) (r%13).toNat;have hz:0≤z%19∧z%19≤18:=by omega
 have hp:=p2 (30-z%19).toNat (by omega);have hq:=p2 (z%19).toNat (by omega)
 have hpq:(2:Int)^(30-z%19).toNat*2^(z%19).toNat=1073741824:=by
  rw [← Int.pow_add,show (30-z%19).toNat+(z%19).toNat=30 by omega]; rfl
 have key:∀a:Int,0≤(a%1073741824)/2^(30-z%19).toNat∧(a%1073741824)/2^(30-z%19).toNat<2^(z%19).toNat:=fun a=>by
  refine ⟨Int.ediv_nonneg (by omega) (by omega),?_⟩;rw [Int.ediv_lt_iff_lt_mul (by omega),Int.mul_comm,hpq];omega
 have kx:=key x;have ky:=key y;have hc:(0:Int)≤(fb (z%19) (r%13).toNat:Nat)∧((fb (z%19) (r%13).toNat:Nat):Int)≤12:=by omega
 exact decide_eq_true ⟨hz.1,hz.2,hc.1,hc.2,kx.1,kx.2,ky.1,ky.2⟩
theorem arv (z:Int):∀n,(fb z n=0)∨fine ⟨z,0,0,(fb z n:Nat)⟩=false
 | 0=>.inl rfl
 | n+1=>by
  unfold fb;split
  ·exact arv z n
  ·rename_i h;right;simpa using h
theorem bdf {a b:Til} (hz:a.z=b.z) (hr:a.r=b.r) (ha:tis a=true) (hb:tis b=true):fine a=fine b:=by
 simp only [fine,ha,hb,hz,hr]
theorem aum {t:Til} (h:t.r=0):fine t=false:=by
 cases hti:tis t with
 | false=>simp [fine,hti]
 | true=>
  have hr:0≤t.z∧t.z≤18:=by simp [tis] at hti; omega
  have hq:(2:Int)^(18-t.z).toNat≤262144:=by
   have h1:2^(18-t.z).toNat≤2^18:=zck (by decide) (by omega);have h3:((2^(18-t.z).toNat:Nat):Int)=(2:Int)^(18-t.z).toNat:=by simp
   omega
  have hp:=p2 (18-t.z).toNat (by omega);have hm:16*(2:Int)^(18-t.z).toNat*2^(18-t.z).toNat≤4194304*262144:=Int.mul_le_mul (by omega) hq (by omega) (by omega);simp only [fine,hti,h,zaf,decide_eq_false_iff_not];have:(7:Int)^(12-(0:Int)).toNat=13841287201:=by decide
  omega
theorem bdg (x y z r:Int):fine (v4 x y z r)=false:=by
 rcases arv (z%19) (r%13).toNat with h | h
 ·exact aum (by simp [v4,h])
 ·by_cases h0:fb (z%19) (r%13).toNat=0
  ·exact aum (by simp [v4,h0])
  ·rw [← h];have h1:=alz (z%19) (r%13).toNat;have hp:=p2 (z%19).toNat (by omega);refine bdf rfl rfl (avo x y z r) ?_;simp only [tis,decide_eq_true_eq];omega
theorem ava (x:Int) (hx:in64 x):IntKind.i64.wrap ((zab IntKind.i64.bits x &&& zab IntKind.i64.bits 1073741823).toNat)=x%1073741824:=by
 have e:(zab 64 1073741823).toNat=2^30-1:=by decide
 rw [show IntKind.i64.bits=64 from rfl,BitVec.toNat_and,e,zcy,BitVec.toNat_ofInt];rw [a7 (by unfold in64 at hx; omega)];omega
theorem bew (x y z r:Int) (hx:in64 x) (hy:in64 y) (hz:in64 z) (hr:in64 r):a8 P0 26 [int .i64 x,int .i64 y,int .i64 z,int .i64 r] [] (v4 x y z r).v []:=by
 refine afq rfl (by decide) ?_;have m1:IntKind.i64.wrap (z.tmod 19+19)=z.tmod 19+19:=a7 (by have:=amb z 19 (by decide); omega)
 have m2:(z.tmod 19+19).tmod 19=z%19:=by
  have:=amb z 19 (by decide);rw [zci (by omega),this.2.2]
 have m3:IntKind.i64.wrap (r.tmod 13+13)=r.tmod 13+13:=a7 (by have:=amb r 13 (by decide); omega)
 have m4:(r.tmod 13+13).tmod 13=r%13:=by
  have:=amb r 13 (by decide);rw [zci (by omega),this.2.2]
 simp only [aa4,m1,m2,m3,m4,push_cast,↓reduceIte,reduceCtorEq,zB,zE,zA,zS,zL,zD,zM];refine ⟨by decide,by decide,by decide,by decide,?_⟩;generalize hzz:z%19=z';have hz':0≤z'∧z'≤18:=by omega
 have hp:=p2 z'.toNat (by omega)
 refine run_loop [(0,false),(1,false),(2,false),(3,false),(8,false)] (fun vs pos los=>∃n:Nat,n≤12∧fb z' n=fb z' (r%13).toNat ∧
  vs=[int .i64 x,int .i64 y,int .i64 z',int .i64 n,.ptr 2000000 0 0]∧pos=[]∧los=[.box [int .i64 0,int .i64 0,int .i64 0,int .i64 0]])
  (fun vs _ _=>match vs with | _::_::_ :: .r (.v (.int _ j))::_=>j.toNat | _=>0) rfl ?_ ?_
 ·simp only [push_cast,↓reduceIte,reduceCtorEq,zB,zE,zA,zS,zL,zD,zM];exact ⟨(r%13).toNat,by omega,rfl,by rw [Int.toNat_of_nonneg (by omega)]⟩
 ·rintro vs pos los ⟨n,hn,hc,rfl,rfl,rfl⟩
  have fin:v4 x y z r=⟨z',(x%1073741824)/2^(30-z').toNat,(y%1073741824)/2^(30-z').toNat,(fb z' n:Nat)⟩:=by
   simp only [v4,hzz,hc]
  have w1:IntKind.i64.wrap (30-z')=30-z':=a7 (by omega)
  have sh:∀a:Int,a.fdiv (2^min (30-z').toNat IntKind.i64.bits)=a/2^(30-z').toNat:=fun a=>by
   rw [show min (30-z').toNat IntKind.i64.bits=(30-z').toNat from zcr (by simp [IntKind.bits]; omega)];exact zcs _ (Int.le_of_lt (Int.pow_pos (by decide)))
  cases n with
  | zero=>
   simp only [Int.reduceLT,gt_iff_lt,Int.lt_irrefl,ava x hx,ava y hy,w1,sh,fin,Til.v,fb,push_cast,↓reduceIte,reduceCtorEq,zB,zE,zA,zS,zL,zD,zM];refine ⟨by omega,by omega,?_⟩
   (show _=true); kernel_rfl
  | succ n=>
   have e1:decide (((n+1:Nat):Int)>0)=true:=by simp
   have w2:IntKind.i64.wrap (((n+1:Nat):Int)-1)=n:=by rw [a7 (by omega)]; omega
   generalize hm:((n+1:Nat):Int)=m;rw [hm] at e1 w2;simp only [e1,push_cast,↓reduceIte,reduceCtorEq,zB,zE,zA,zS,zL,zD,zM];refine b9 (as':=[Til.v ⟨z',0,0,m⟩]) rfl ?_;refine a5 (bch ⟨z',0,0,m⟩ ⟨by unfold in64; dsimp; omega,by show in64 0; decide,by show in64 0; decide,by unfold in64; dsimp; omega⟩) rfl trivial ?_;cases hf:fine ⟨z',0,0,m⟩ with
   | true=>
    simp only [w2,push_cast,↓reduceIte,reduceCtorEq,zB,zE,zA,zS,zL,zD,zM];refine ⟨⟨n,by omega,?_,rfl⟩,by omega⟩;rw [← hc];simp only [fb,hm,hf,if_true]
   | false=>
    have hk:fb z' (n+1)=n+1:=by simp [fb,hm,hf]
    rw [hk,hm] at fin;simp only [ava x hx,ava y hy,w1,sh,fin,Til.v,push_cast,↓reduceIte,reduceCtorEq,zB,zE,zA,zS,zL,zD,zM];refine ⟨by omega,by omega,?_⟩
    (show _=true); kernel_rfl


def mnN (f:Nat→Int):Nat→Int
 | 0=>f 0
 | k+1=>min (mnN f k) (f k)
def mxN (f:Nat→Int):Nat→Int
 | 0=>f 0
 | k+1=>max (mxN f k) (f k)
theorem ara (f:Nat→Int) (k i:Nat) (h:i<k):mnN f k≤f i:=by
 induction k with
 | zero=>omega
 | succ k ih=>
  rw [mnN];by_cases hi:i=k
  ·subst hi; omega
  ·have:=ih (by omega); omega
theorem aq8 (f:Nat→Int) (k i:Nat) (h:i<k):f i≤mxN f k:=by
 induction k with
 | zero=>omega
 | succ k ih=>
  rw [mxN];by_cases hi:i=k
  ·subst hi; omega
  ·have:=ih (by omega); omega
def wg (z:Ei) (r:Nat) (lx ly ux uy:Int):Prop:=(mxN (hx z r) 6<lx∨ux<mnN (hx z r) 6)∨(mxN (hy z r) 6<ly∨uy<mnN (hy z r) 6)
instance (z:Ei) (r:Nat) (lx ly ux uy:Int):Decidable (wg z r lx ly ux uy):=inferInstanceAs (Decidable (_∨_))
def ais (z:Ei) (r:Nat) (lx ly ux uy:Int) (i:Nat):Prop:=crs z r i ((i+1)%6) lx ly<0∧crs z r i ((i+1)%6) ux ly<0∧crs z r i ((i+1)%6) ux uy<0∧crs z r i ((i+1)%6) lx uy<0
instance (z:Ei) (r:Nat) (lx ly ux uy:Int) (i:Nat):Decidable (ais z r lx ly ux uy i):=inferInstanceAs (Decidable (_∧_))
def aq (z:Ei) (r:Nat) (lx ly ux uy:Int):Bool:=!decide (wg z r lx ly ux uy)&&(zcl 6).all fun i=>!decide (ais z r lx ly ux uy i)
theorem a6m {z:Ei} {r:Nat} {lx ly ux uy:Int} (h:wg z r lx ly ux uy):aq z r lx ly ux uy=false:=by simp [aq,h]
theorem a6a (A B x y lx ly ux uy:Int) (h1:lx≤x∧x≤ux) (h2:ly≤y∧y≤uy) :
  A*y-B*x≤A*ly-B*lx∨A*y-B*x≤A*ly-B*ux∨A*y-B*x≤A*uy-B*ux∨A*y-B*x≤A*uy-B*lx:=by
 have ay:A*y≤A*ly∨A*y≤A*uy:=by
  rcases Int.le_total 0 A with h | h
  ·exact .inr (Int.mul_le_mul_of_nonneg_left h2.2 h)
  ·exact .inl (Int.mul_le_mul_of_nonpos_left h h2.1)
 have bx:B*lx≤B*x∨B*ux≤B*x:=by
  rcases Int.le_total 0 B with h | h
  ·exact .inl (Int.mul_le_mul_of_nonneg_left h1.1 h)
  ·exact .inr (Int.mul_le_mul_of_nonpos_left h h1.2)
 omega
theorem a57 (z:Ei) (r i j:Nat) (x y:Int):crs z r i j x y=((kx r j-kx r i)*y-(ky r j-ky r i)*x)-((kx r j-kx r i)*hy z r i-(ky r j-ky r i)*hx z r i):=by
 unfold crs;rw [Int.mul_sub,Int.mul_sub];omega
theorem a4u {x y:Int} {z:Ei} {r:Nat} (h:sp x y z r) {lx ly ux uy:Int} (h1:lx≤3*x∧3*x≤ux) (h2:ly≤3*y∧3*y≤uy):aq z r lx ly ux uy=true:=by
 obtain ⟨_,hc,⟨a,a6,ha⟩,⟨b,b6,hb⟩,⟨c,c6,hcc⟩,⟨d,d6,hd⟩⟩:=h;have e1:=ara (hx z r) 6 a a6;have e2:=aq8 (hx z r) 6 b b6;have e3:=ara (hy z r) 6 c c6;have e4:=aq8 (hy z r) 6 d d6;simp only [aq,Bool.and_eq_true,Bool.not_eq_true',decide_eq_false_iff_not,List.all_eq_true,List.mem_range];refine ⟨by unfold wg; omega,fun i hi=>?_⟩;have:=hc i hi;have hu:=a6a (kx r ((i+1)%6)-kx r i) (ky r ((i+1)%6)-ky r i) (3*x) (3*y) lx ly ux uy h1 h2;simp only [ais,a57] at this ⊢;omega
def rng (a b:Int):List Int:=(zcl (b+1-a).toNat).map fun i:Nat=>a+(i:Int)
def bjo (p:Int→Int→Bool) (a b k:Int):List (Int×Int):=((rng a b).filter fun i=>p i k).map fun i=>(i,k)
def bab (p:Int→Int→Bool) (a b c d:Int):List (Int×Int):=(rng c d).flatMap (bjo p a b)
def tlo (m s last:Int):Int:=min (max (m.tdiv (3*s)-1) 0) last
def thi (m s last:Int):Int:=min (max (m.tdiv (3*s)+1) 0) last
def dlo (m s:Int):Int:=max (m.tdiv (3*s)-2) 0
def dhi (m s last:Int):Int:=min (m.tdiv (3*s)+2) last
def tch (z:Ei) (r:Nat) (s i k:Int):Bool:=aq z r (3*(i*s)) (3*(k*s)) (3*((i+1)*s)) (3*((k+1)*s))
def baf (z:Ei) (r:Nat) (s last:Int):List (Int×Int):=bab (tch z r s) (tlo (mnN (hx z r) 6) s last) (thi (mxN (hx z r) 6) s last) (tlo (mnN (hy z r) 6) s last) (thi (mxN (hy z r) 6) s last)
def bjr (z:Ei) (r:Nat) (s last:Int):List (Int×Int):=bab (tch z r s) (dlo (mnN (hx z r) 6) s) (dhi (mxN (hx z r) 6) s last) (dlo (mnN (hy z r) 6) s) (dhi (mxN (hy z r) 6) s last)

end
end Go.Ev

import Derived.Test.YtocfnfcflljooaaGreatChecked
import Derived.KernelRfl
import Derived.Test.YtocfnfcflljooaaGreatM5
open Nat renaming reduceBEq → zB, reduceEqDiff → zE, reduceAdd → zA, reduceSub → zS, reduceLT → zL, reduceLeDiff → zD, reduceMul → zM
open Go.Proofs.Tryz renaming prog → P0
open Go.Proofs.Tryz
open List renaming length_nil → zaa, length_map → zad, append_nil → zaf, length_cons → zal, length_append → zar, range_zero → zau, map_cons → zaw, map_nil → zax, getD_cons_zero → zay, getD_cons_succ → zaz, take_succ_cons → zba, take_zero → zbb, drop_succ_cons → zbc, drop_zero → zbd, cons_append → zbe, nil_append → zbf, all_cons → zbg, all_nil → zbh, contains_cons → zbo, contains_nil → zbp, filter_cons → zbq, filter_nil → zbr, getElem?_cons_zero → zbt, getElem?_cons_succ → zbu, getElem?_nil → zbv, take_nil → zbw, drop_nil → zbx
open BitVec renaming ofInt → zab, ofNat → zcj, toNat_ofNat → zcy
open Nat renaming pow_add → zac, mul_assoc → zae, pow_le_pow_right → zai, or_comm → zaj, mul_comm → zas, add_mul → zat, reduceEqDiff → zbz, reduceAdd → zca, reduceSub → zcb, reduceLT → zcc, reduceLeDiff → zcd, reduceMul → zce, pow_succ → zcf, pow_pos → zch, mul_le_mul → zck, pow_mul → zco, or_assoc → zcp, or_lt_two_pow → zcq, add_mul_div_right → zcs, zero_add → zct, div_div_eq_div_mul → zcv, div_eq_of_lt → zcw, testBit_two_pow_mul_add → zcx, testBit_lt_two_pow → zcz, mul_le_mul_right → zda
open Int renaming emod_lt_of_pos → zag, emod_nonneg → zah, toNat → zcg, toNat_natCast → zci, lt_or_le → zcl, pow_succ → zcm, tmod_eq_emod_of_nonneg → zcn, natAbs_mul → zcr, mul_ediv_add_emod → zcu
open Option renaming getD_some → zak, map_some → zaq, getD_none → zav, map_none → zbs
open Bool renaming and_true → zam, true_and → zan, or_false → zao, not_false → zap, false_and → zbi, and_self → zbj, or_true → zbk, true_or → zbl, false_or → zbm, not_true → zbn, false_eq_true → zby
namespace Go.Ev
set_option maxHeartbeats 8000000
set_option maxRecDepth 100000
noncomputable section
open Go
set_option linter.unusedSectionVars false
set_option linter.unnecessarySimpa false
set_option linter.unusedSimpArgs false
set_option linter.unusedVariables false
def af8:Mk P0 f135:={ x:=_ }
def af4:Mk P0 f151:={ x:=_ }
def af6:Mk P0 f136:={ x:=_ }
def aeg:Mk P0 f152:={ x:=_ }
def aci:Mk P0 f131:={ x:=_ }
def af7:Mk P0 f139:={ x:=_ }
def ac1:Mk P0 f145:={ x:=_ }
def sm (x:Int):AV:=.tup [int .i64 (if b8 x then x else 0),bl (decide (b8 x))]
variable {x y:Int}
theorem lm (h:x=y) (hx:b8 y):AV.tup [int .i64 x,bl true]=sm y:=by simp [sm,hx,h]
theorem aa9 (hx:¬b8 y):AV.tup [int .i64 0,bl false]=sm y:=by simp [sm,hx]
theorem azi (n:Nat):(n:Int).fdiv (2^min (zcg 32) IntKind.u64.bits)=((n/4294967296:Nat):Int):=by
 have:(2:Int)^min (zcg 32) IntKind.u64.bits=4294967296:=by decide
 rw [this,Int.fdiv_eq_ediv_of_nonneg _ (by decide)];omega
theorem ay6 (n:Nat):IntKind.u64.wrap (n:Int)=((n%18446744073709551616:Nat):Int):=by
 rw [IntKind.wrap_u64]; omega
theorem a0i (n:Nat):(zab IntKind.u64.bits (n:Int) &&& zab IntKind.u64.bits 4294967295).toNat=n%4294967296:=by
 have b:zab IntKind.u64.bits (n:Int)=zcj 64 n:=by simp [IntKind.bits]
 have a:zab IntKind.u64.bits 4294967295=zcj 64 (2^32-1):=rfl;rw [b,a];show (zcj 64 n &&& zcj 64 (2^32-1)).toNat = _;rw [BitVec.toNat_and,zcy,zcy,show (2^32-1)%2^64=2^32-1 by decide,Nat.and_two_pow_sub_one_eq_mod];omega
variable {b:Nat}
theorem apv {x y a c d:Nat} (hx:x=a*4294967296+b) (hy:y=c*4294967296+d):x*y=(a*c)*18446744073709551616+(a*d+b*c)*4294967296+b*d:=by
 subst hx; subst hy;rw [zat,Nat.mul_add,Nat.mul_add]
 have e:a*4294967296*(c*4294967296)=(a*c)*18446744073709551616:=by
  rw [Nat.mul_mul_mul_comm]
 have g:a*4294967296*d=(a*d)*4294967296:=Nat.mul_right_comm _ _ _;have f:b*(c*4294967296)=(b*c)*4294967296:=(zae _ _ _).symm;rw [e,g,f];omega
theorem zf {a:Nat} (d:a<4294967296) (c:b<4294967296):a*b<=18446744065119617025:=by
 have:a*b<=4294967295*4294967295:=zck (by omega) (by omega);omega
theorem a0j (a b:Int) (g:b8 a) (f:b8 b):a9 P0 135 [int .i64 a,int .i64 b] [] (sm (a+b)) []:=by
 refine af8.t func135 ?_
 push_cast [af8,zaa]
 unfold b8 at g f;refine c7 (λ h=>?_) (λ h=>?_)
 ·push_cast
  refine aa9 ?_;rw [IntKind.wrap_i64] at h;unfold b8; by_cases d:(a+b+9223372036854775808)%18446744073709551616-9223372036854775808>a<;>by_cases c:b>0<;>by_cases e:b=0<;>simp only [d,c,e,decide_true,decide_false] at h<;>first | omega | (simp at h; done) | (simp at h; omega)
 push_cast
 rw [IntKind.wrap_i64] at h |-
 have:b8 (a+b):=by
  unfold b8; by_cases d:(a+b+9223372036854775808)%18446744073709551616-9223372036854775808>a<;>by_cases c:b>0<;>by_cases e:b=0<;>simp only [d,c,e,decide_true,decide_false] at h<;>first | omega | (simp at h; done) | (simp at h; omega)
 exact lm (by unfold b8 at this; omega) this
theorem amu (a b:Int) (g:b8 a) (f:b8 b):a9 P0 151 [int .i64 a,int .i64 b] [] (sm (a-b)) []:=by
 refine af4.t func151 ?_
 push_cast [af4,zaa]
 unfold b8 at g f;refine c7 (λ h=>?_) (λ h=>?_)
 ·push_cast
  refine aa9 ?_;rw [IntKind.wrap_i64] at h;unfold b8; by_cases d:(a-b+9223372036854775808)%18446744073709551616-9223372036854775808<a<;>by_cases c:b>0<;>by_cases e:b=0<;>simp only [d,c,e,decide_true,decide_false] at h<;>first | omega | (simp at h; done) | (simp at h; omega)
 push_cast
 rw [IntKind.wrap_i64] at h |-
 have:b8 (a-b):=by
  unfold b8; by_cases d:(a-b+9223372036854775808)%18446744073709551616-9223372036854775808<a<;>by_cases c:b>0<;>by_cases e:b=0<;>simp only [d,c,e,decide_true,decide_false] at h<;>first | omega | (simp at h; done) | (simp at h; omega)
 exact lm (by unfold b8 at this; omega) this
theorem azt (a:Int) (b:b8 a):a9 P0 136 [int .i64 a] [] (sm (-a)) []:=by
 refine af6.t func136 ?_
 push_cast [af6,zaa]
 refine a6 (amu 0 a (by decide) b) rfl trivial ?_
 push_cast [sm]
 simp
theorem aol (a:Int) (b:b8 a):a9 P0 152 [int .i64 a] [] (int .u64 a.natAbs) []:=by
 refine aeg.t func152 ?_
 push_cast [aeg,zaa]
 unfold b8 at b;refine c7 (λ h=>?_) (λ h=>?_)
 ·push_cast
  simp at h;rw [IntKind.wrap_u64,IntKind.wrap_u64];congr 3;omega
 push_cast
 simp at h;rw [IntKind.wrap_u64];congr 3;omega
theorem ahi (x y:Nat) (hx:x<18446744073709551616) (hy:y<18446744073709551616):a9 P0 131 [int .u64 x,int .u64 y] [] (.tup [int .u64 (x*y/18446744073709551616:Nat),int .u64 (x*y%18446744073709551616:Nat)]) []:=by
 refine aci.t func131 ?_;simp only [aci,push_cast,↓reduceIte,reduceCtorEq,zB,zE,zA,zS,zL,zD,zM];refine ⟨by decide,by decide,by decide,by decide,by decide,?_⟩;simp only [azi,a0i,ay6,<- Int.natCast_mul,<- Int.natCast_add];have f:∀n:Nat,n%4294967296%18446744073709551616=n%4294967296:=λ n=>by omega
 simp only [f];have e:=apv (x:=x) (y:=y) (a:=x/4294967296) (b:=x%4294967296) (c:=y/4294967296) (d:=y%4294967296) (by omega) (by omega);have g:=zf (a:=x/4294967296) (b:=y/4294967296) (by omega) (by omega);have h:=zf (a:=x/4294967296) (b:=y%4294967296) (by omega) (by omega);have i:=zf (a:=x%4294967296) (b:=y/4294967296) (by omega) (by omega);have j:=zf (a:=x%4294967296) (b:=y%4294967296) (by omega) (by omega);generalize x/4294967296*(y/4294967296)=p at *;generalize x/4294967296*(y%4294967296)=q at *;generalize x%4294967296*(y/4294967296)=r at *;generalize x%4294967296*(y%4294967296)=t at *;rw [e];congr 5;omega

theorem azv (a b:Int) (n:b8 a) (l:b8 b):a9 P0 139 [int .i64 a,int .i64 b] [] (sm (a*b)) []:=by
 refine af7.t func139 ?_;have k:=n;have j:=l;unfold b8 at k j
 simp only [af7,zaa,ng,mn,mt,cj,db,br,mr,iy,fh,ek,jm,ak,nc,ip,my,na,iv,et,mq,mw,mu,ck,io,bn,oh,dh,fv,jo,de,ss,iu,jl,fu,er,ir,mz,nh,rb,ml,mo,ci,wz,qz,oi,jr,nn,nl,ix,rl,nf,iw,eu,jd,ny,jf,ji,bq,au,fp,je,bp,nz,ft,cz,sh,aa,jh,si,jg,oe,be,zau,rc,qy,fb,fg,xn,xo,xj,xi,gf,fi,rq,zt,mv,nw,cw,cu,bf,n7,aq,ov,sa,lc,tt,qg,oz,qf,wa,kp,pq,kw,la,vp,pu,ue,uj,toV,tp,tq,gx,bg,gm,yes,ya,bad,o9,ig,mmL,ja,vz,eq2,eql,AV.isA,PO.see,PO.act,Vs.q,Rs.and,AV.bare,AV.may,ul,yr,yq,um,nj,un1,oa,qe,ia2,iab,leb,uf,ldb,ldr,ld1,rr,sg,fa1,uh,bnd,tx,ou,ui,src,ej,bo,k7,ae,PO.see.mayO,PO.see.bareO,g9,m7,dv,nv,AV.rv,rvs,AV.elt,frz,freeze,m0,t6,stb,str,st2,pa,par,qi,uk,pt,vo,x9,dp,yi,RV.cells,AV.cells,AV.one,RV.one,AV.boxable,RV.good,b7,s6,kj,ox,vt,yf,ye,ku,km,lz,AV.isNil,ni,ij,af,l8,dt,t5,l5,zw,n9,fwd,yn,ra,q8,i8,di,dz,back,am,imV,imL,imO,idx,z5,obs,keep,ag,sd,gz,pz,nq,ma,uq,Ob.own,Value.oneCell',jp,fw,↓reduceIte,true_and,and_true,and_self,true_implies,imp_self,implies_true,zak,zav,zal,zaa,zad,zaw,zax,zay,zaz,zba,zbb,zbc,zbd,zbe,zbf,zaf,zbg,zbh,zam,zan,zbi,zbj,zbk,zbl,zbm,zao,zbn,zap,reduceCtorEq,zbo,zbp,zbq,zbr,decide_true,decide_false,if_true,if_false,false_and,and_false,not_true,not_false_eq_true,zaq,zbs,zbt,zbu,zbv,zar,beq_self_eq_true,zB,zbw,zbx,false_implies,zby,ne_eq,zbz,zca,zcb,zcc,zcd,zce,rf,re,rk,rj,ri,rm]
 refine a6 (aol a n) rfl trivial ?_
 simp only [ng,mn,mt,cj,db,br,mr,iy,fh,ek,jm,ak,nc,ip,my,na,iv,et,mq,mw,mu,ck,io,bn,oh,dh,fv,jo,de,ss,iu,jl,fu,er,ir,mz,nh,rb,ml,mo,ci,wz,qz,oi,jr,nn,nl,ix,rl,nf,iw,eu,jd,ny,jf,ji,bq,au,fp,je,bp,nz,ft,cz,sh,aa,jh,si,jg,oe,be,zau,rc,qy,fb,fg,xn,xo,xj,xi,gf,fi,rq,zt,mv,nw,cw,cu,bf,n7,aq,ov,sa,lc,tt,qg,oz,qf,wa,kp,pq,kw,la,vp,pu,ue,uj,toV,tp,tq,gx,bg,gm,yes,ya,bad,o9,ig,mmL,ja,vz,eq2,eql,AV.isA,PO.see,PO.act,Vs.q,Rs.and,AV.bare,AV.may,ul,yr,yq,um,nj,un1,oa,qe,ia2,iab,leb,uf,ldb,ldr,ld1,rr,sg,fa1,uh,bnd,tx,ou,ui,src,ej,bo,k7,ae,PO.see.mayO,PO.see.bareO,g9,m7,dv,nv,AV.rv,rvs,AV.elt,frz,freeze,m0,t6,stb,str,st2,pa,par,qi,uk,pt,vo,x9,dp,yi,RV.cells,AV.cells,AV.one,RV.one,AV.boxable,RV.good,b7,s6,kj,ox,vt,yf,ye,ku,km,lz,AV.isNil,ni,ij,af,l8,dt,t5,l5,zw,n9,fwd,yn,ra,q8,i8,di,dz,back,am,imV,imL,imO,idx,z5,obs,keep,ag,sd,gz,pz,nq,ma,uq,Ob.own,Value.oneCell',jp,fw,↓reduceIte,true_and,and_true,and_self,true_implies,imp_self,implies_true,zak,zav,zal,zaa,zad,zaw,zax,zay,zaz,zba,zbb,zbc,zbd,zbe,zbf,zaf,zbg,zbh,zam,zan,zbi,zbj,zbk,zbl,zbm,zao,zbn,zap,reduceCtorEq,zbo,zbp,zbq,zbr,decide_true,decide_false,if_true,if_false,false_and,and_false,not_true,not_false_eq_true,zaq,zbs,zbt,zbu,zbv,zar,beq_self_eq_true,zB,zbw,zbx,false_implies,zby,ne_eq,zbz,zca,zcb,zcc,zcd,zce,rf,re,rk,rj,ri,rm]
 refine a6 (aol b l) rfl trivial ?_
 simp only [ng,mn,mt,cj,db,br,mr,iy,fh,ek,jm,ak,nc,ip,my,na,iv,et,mq,mw,mu,ck,io,bn,oh,dh,fv,jo,de,ss,iu,jl,fu,er,ir,mz,nh,rb,ml,mo,ci,wz,qz,oi,jr,nn,nl,ix,rl,nf,iw,eu,jd,ny,jf,ji,bq,au,fp,je,bp,nz,ft,cz,sh,aa,jh,si,jg,oe,be,zau,rc,qy,fb,fg,xn,xo,xj,xi,gf,fi,rq,zt,mv,nw,cw,cu,bf,n7,aq,ov,sa,lc,tt,qg,oz,qf,wa,kp,pq,kw,la,vp,pu,ue,uj,toV,tp,tq,gx,bg,gm,yes,ya,bad,o9,ig,mmL,ja,vz,eq2,eql,AV.isA,PO.see,PO.act,Vs.q,Rs.and,AV.bare,AV.may,ul,yr,yq,um,nj,un1,oa,qe,ia2,iab,leb,uf,ldb,ldr,ld1,rr,sg,fa1,uh,bnd,tx,ou,ui,src,ej,bo,k7,ae,PO.see.mayO,PO.see.bareO,g9,m7,dv,nv,AV.rv,rvs,AV.elt,frz,freeze,m0,t6,stb,str,st2,pa,par,qi,uk,pt,vo,x9,dp,yi,RV.cells,AV.cells,AV.one,RV.one,AV.boxable,RV.good,b7,s6,kj,ox,vt,yf,ye,ku,km,lz,AV.isNil,ni,ij,af,l8,dt,t5,l5,zw,n9,fwd,yn,ra,q8,i8,di,dz,back,am,imV,imL,imO,idx,z5,obs,keep,ag,sd,gz,pz,nq,ma,uq,Ob.own,Value.oneCell',jp,fw,↓reduceIte,true_and,and_true,and_self,true_implies,imp_self,implies_true,zak,zav,zal,zaa,zad,zaw,zax,zay,zaz,zba,zbb,zbc,zbd,zbe,zbf,zaf,zbg,zbh,zam,zan,zbi,zbj,zbk,zbl,zbm,zao,zbn,zap,reduceCtorEq,zbo,zbp,zbq,zbr,decide_true,decide_false,if_true,if_false,false_and,and_false,not_true,not_false_eq_true,zaq,zbs,zbt,zbu,zbv,zar,beq_self_eq_true,zB,zbw,zbx,false_implies,zby,ne_eq,zbz,zca,zcb,zcc,zcd,zce,rf,re,rk,rj,ri,rm]
 refine a6 (ahi a.natAbs b.natAbs (by omega) (by omega)) rfl trivial ?_
 simp only [ng,mn,mt,cj,db,br,mr,iy,fh,ek,jm,ak,nc,ip,my,na,iv,et,mq,mw,mu,ck,io,bn,oh,dh,fv,jo,de,ss,iu,jl,fu,er,ir,mz,nh,rb,ml,mo,ci,wz,qz,oi,jr,nn,nl,ix,rl,nf,iw,eu,jd,ny,jf,ji,bq,au,fp,je,bp,nz,ft,cz,sh,aa,jh,si,jg,oe,be,zau,rc,qy,fb,fg,xn,xo,xj,xi,gf,fi,rq,zt,mv,nw,cw,cu,bf,n7,aq,ov,sa,lc,tt,qg,oz,qf,wa,kp,pq,kw,la,vp,pu,ue,uj,toV,tp,tq,gx,bg,gm,yes,ya,bad,o9,ig,mmL,ja,vz,eq2,eql,AV.isA,PO.see,PO.act,Vs.q,Rs.and,AV.bare,AV.may,ul,yr,yq,um,nj,un1,oa,qe,ia2,iab,leb,uf,ldb,ldr,ld1,rr,sg,fa1,uh,bnd,tx,ou,ui,src,ej,bo,k7,ae,PO.see.mayO,PO.see.bareO,g9,m7,dv,nv,AV.rv,rvs,AV.elt,frz,freeze,m0,t6,stb,str,st2,pa,par,qi,uk,pt,vo,x9,dp,yi,RV.cells,AV.cells,AV.one,RV.one,AV.boxable,RV.good,b7,s6,kj,ox,vt,yf,ye,ku,km,lz,AV.isNil,ni,ij,af,l8,dt,t5,l5,zw,n9,fwd,yn,ra,q8,i8,di,dz,back,am,imV,imL,imO,idx,z5,obs,keep,ag,sd,gz,pz,nq,ma,uq,Ob.own,Value.oneCell',jp,fw,↓reduceIte,true_and,and_true,and_self,true_implies,imp_self,implies_true,zak,zav,zal,zaa,zad,zaw,zax,zay,zaz,zba,zbb,zbc,zbd,zbe,zbf,zaf,zbg,zbh,zam,zan,zbi,zbj,zbk,zbl,zbm,zao,zbn,zap,reduceCtorEq,zbo,zbp,zbq,zbr,decide_true,decide_false,if_true,if_false,false_and,and_false,not_true,not_false_eq_true,zaq,zbs,zbt,zbu,zbv,zar,beq_self_eq_true,zB,zbw,zbx,false_implies,zby,ne_eq,zbz,zca,zcb,zcc,zcd,zce,rf,re,rk,rj,ri,rm]
 have d:a.natAbs*b.natAbs=(a*b).natAbs:=(zcr a b).symm;rw [d];have o:(a*b).natAbs<=9223372036854775808*9223372036854775808:=by rw [<- d]; exact zck (by omega) (by omega)
 have s:(a<0/\b<0->0<a*b)/\(a<0/\0<=b->a*b<=0)/\(0<=a/\b<0->a*b<=0)/\(0<=a/\0<=b->0<=a*b):=
  ⟨λ h=>Int.mul_pos_of_neg_of_neg h.1 h.2,λ h=>Int.mul_nonpos_of_nonpos_of_nonneg (by omega) h.2,λ h=>Int.mul_nonpos_of_nonneg_of_nonpos h.1 (by omega),λ h=>Int.mul_nonneg h.1 h.2⟩
 clear d;generalize a*b=m at *
 repeat refine And.intro (by simp +contextual) ?_
 refine c7 (λ h=>?_) (λ h=>?_)
 ·simp only [ng,mn,mt,cj,db,br,mr,iy,fh,ek,jm,ak,nc,ip,my,na,iv,et,mq,mw,mu,ck,io,bn,oh,dh,fv,jo,de,ss,iu,jl,fu,er,ir,mz,nh,rb,ml,mo,ci,wz,qz,oi,jr,nn,nl,ix,rl,nf,iw,eu,jd,ny,jf,ji,bq,au,fp,je,bp,nz,ft,cz,sh,aa,jh,si,jg,oe,be,zau,rc,qy,fb,fg,xn,xo,xj,xi,gf,fi,rq,zt,mv,nw,cw,cu,bf,n7,aq,ov,sa,lc,tt,qg,oz,qf,wa,kp,pq,kw,la,vp,pu,ue,uj,toV,tp,tq,gx,bg,gm,yes,ya,bad,o9,ig,mmL,ja,vz,eq2,eql,AV.isA,PO.see,PO.act,Vs.q,Rs.and,AV.bare,AV.may,ul,yr,yq,um,nj,un1,oa,qe,ia2,iab,leb,uf,ldb,ldr,ld1,rr,sg,fa1,uh,bnd,tx,ou,ui,src,ej,bo,k7,ae,PO.see.mayO,PO.see.bareO,g9,m7,dv,nv,AV.rv,rvs,AV.elt,frz,freeze,m0,t6,stb,str,st2,pa,par,qi,uk,pt,vo,x9,dp,yi,RV.cells,AV.cells,AV.one,RV.one,AV.boxable,RV.good,b7,s6,kj,ox,vt,yf,ye,ku,km,lz,AV.isNil,ni,ij,af,l8,dt,t5,l5,zw,n9,fwd,yn,ra,q8,i8,di,dz,back,am,imV,imL,imO,idx,z5,obs,keep,ag,sd,gz,pz,nq,ma,uq,Ob.own,Value.oneCell',jp,fw,↓reduceIte,true_and,and_true,and_self,true_implies,imp_self,implies_true,zak,zav,zal,zaa,zad,zaw,zax,zay,zaz,zba,zbb,zbc,zbd,zbe,zbf,zaf,zbg,zbh,zam,zan,zbi,zbj,zbk,zbl,zbm,zao,zbn,zap,reduceCtorEq,zbo,zbp,zbq,zbr,decide_true,decide_false,if_true,if_false,false_and,and_false,not_true,not_false_eq_true,zaq,zbs,zbt,zbu,zbv,zar,beq_self_eq_true,zB,zbw,zbx,false_implies,zby,ne_eq,zbz,zca,zcb,zcc,zcd,zce,rf,re,rk,rj,ri,rm]
  refine aa9 ?_;unfold b8;by_cases i:m.natAbs/18446744073709551616=0<;>by_cases g:m.natAbs%18446744073709551616=9223372036854775808<;>by_cases c:a<0<;>by_cases e:b<0<;>simp [i,g,c,e] at h<;>omega
 have r:m.natAbs<=9223372036854775808/\(m.natAbs=9223372036854775808->(a<0/\0<=b)\/(0<=a/\b<0)):=by
  by_cases i:m.natAbs/18446744073709551616=0<;>by_cases g:m.natAbs%18446744073709551616=9223372036854775808<;>by_cases c:a<0<;>by_cases e:b<0<;>simp [i,g,c,e] at h<;>omega
 clear h
 simp only [ng,mn,mt,cj,db,br,mr,iy,fh,ek,jm,ak,nc,ip,my,na,iv,et,mq,mw,mu,ck,io,bn,oh,dh,fv,jo,de,ss,iu,jl,fu,er,ir,mz,nh,rb,ml,mo,ci,wz,qz,oi,jr,nn,nl,ix,rl,nf,iw,eu,jd,ny,jf,ji,bq,au,fp,je,bp,nz,ft,cz,sh,aa,jh,si,jg,oe,be,zau,rc,qy,fb,fg,xn,xo,xj,xi,gf,fi,rq,zt,mv,nw,cw,cu,bf,n7,aq,ov,sa,lc,tt,qg,oz,qf,wa,kp,pq,kw,la,vp,pu,ue,uj,toV,tp,tq,gx,bg,gm,yes,ya,bad,o9,ig,mmL,ja,vz,eq2,eql,AV.isA,PO.see,PO.act,Vs.q,Rs.and,AV.bare,AV.may,ul,yr,yq,um,nj,un1,oa,qe,ia2,iab,leb,uf,ldb,ldr,ld1,rr,sg,fa1,uh,bnd,tx,ou,ui,src,ej,bo,k7,ae,PO.see.mayO,PO.see.bareO,g9,m7,dv,nv,AV.rv,rvs,AV.elt,frz,freeze,m0,t6,stb,str,st2,pa,par,qi,uk,pt,vo,x9,dp,yi,RV.cells,AV.cells,AV.one,RV.one,AV.boxable,RV.good,b7,s6,kj,ox,vt,yf,ye,ku,km,lz,AV.isNil,ni,ij,af,l8,dt,t5,l5,zw,n9,fwd,yn,ra,q8,i8,di,dz,back,am,imV,imL,imO,idx,z5,obs,keep,ag,sd,gz,pz,nq,ma,uq,Ob.own,Value.oneCell',jp,fw,↓reduceIte,true_and,and_true,and_self,true_implies,imp_self,implies_true,zak,zav,zal,zaa,zad,zaw,zax,zay,zaz,zba,zbb,zbc,zbd,zbe,zbf,zaf,zbg,zbh,zam,zan,zbi,zbj,zbk,zbl,zbm,zao,zbn,zap,reduceCtorEq,zbo,zbp,zbq,zbr,decide_true,decide_false,if_true,if_false,false_and,and_false,not_true,not_false_eq_true,zaq,zbs,zbt,zbu,zbv,zar,beq_self_eq_true,zB,zbw,zbx,false_implies,zby,ne_eq,zbz,zca,zcb,zcc,zcd,zce,rf,re,rk,rj,ri,rm]
 refine c7 (λ f=>?_) (λ f=>?_)
 ·simp only [ng,mn,mt,cj,db,br,mr,iy,fh,ek,jm,ak,nc,ip,my,na,iv,et,mq,mw,mu,ck,io,bn,oh,dh,fv,jo,de,ss,iu,jl,fu,er,ir,mz,nh,rb,ml,mo,ci,wz,qz,oi,jr,nn,nl,ix,rl,nf,iw,eu,jd,ny,jf,ji,bq,au,fp,je,bp,nz,ft,cz,sh,aa,jh,si,jg,oe,be,zau,rc,qy,fb,fg,xn,xo,xj,xi,gf,fi,rq,zt,mv,nw,cw,cu,bf,n7,aq,ov,sa,lc,tt,qg,oz,qf,wa,kp,pq,kw,la,vp,pu,ue,uj,toV,tp,tq,gx,bg,gm,yes,ya,bad,o9,ig,mmL,ja,vz,eq2,eql,AV.isA,PO.see,PO.act,Vs.q,Rs.and,AV.bare,AV.may,ul,yr,yq,um,nj,un1,oa,qe,ia2,iab,leb,uf,ldb,ldr,ld1,rr,sg,fa1,uh,bnd,tx,ou,ui,src,ej,bo,k7,ae,PO.see.mayO,PO.see.bareO,g9,m7,dv,nv,AV.rv,rvs,AV.elt,frz,freeze,m0,t6,stb,str,st2,pa,par,qi,uk,pt,vo,x9,dp,yi,RV.cells,AV.cells,AV.one,RV.one,AV.boxable,RV.good,b7,s6,kj,ox,vt,yf,ye,ku,km,lz,AV.isNil,ni,ij,af,l8,dt,t5,l5,zw,n9,fwd,yn,ra,q8,i8,di,dz,back,am,imV,imL,imO,idx,z5,obs,keep,ag,sd,gz,pz,nq,ma,uq,Ob.own,Value.oneCell',jp,fw,↓reduceIte,true_and,and_true,and_self,true_implies,imp_self,implies_true,zak,zav,zal,zaa,zad,zaw,zax,zay,zaz,zba,zbb,zbc,zbd,zbe,zbf,zaf,zbg,zbh,zam,zan,zbi,zbj,zbk,zbl,zbm,zao,zbn,zap,reduceCtorEq,zbo,zbp,zbq,zbr,decide_true,decide_false,if_true,if_false,false_and,and_false,not_true,not_false_eq_true,zaq,zbs,zbt,zbu,zbv,zar,beq_self_eq_true,zB,zbw,zbx,false_implies,zby,ne_eq,zbz,zca,zcb,zcc,zcd,zce,rf,re,rk,rj,ri,rm]
  have p:m<=0:=by by_cases c:a<0<;>by_cases e:b<0<;>simp [c,e] at f<;>omega
  refine lm ?_ ?_
  ·rw [IntKind.wrap_i64,IntKind.wrap_i64];omega
  unfold b8; omega
 simp only [ng,mn,mt,cj,db,br,mr,iy,fh,ek,jm,ak,nc,ip,my,na,iv,et,mq,mw,mu,ck,io,bn,oh,dh,fv,jo,de,ss,iu,jl,fu,er,ir,mz,nh,rb,ml,mo,ci,wz,qz,oi,jr,nn,nl,ix,rl,nf,iw,eu,jd,ny,jf,ji,bq,au,fp,je,bp,nz,ft,cz,sh,aa,jh,si,jg,oe,be,zau,rc,qy,fb,fg,xn,xo,xj,xi,gf,fi,rq,zt,mv,nw,cw,cu,bf,n7,aq,ov,sa,lc,tt,qg,oz,qf,wa,kp,pq,kw,la,vp,pu,ue,uj,toV,tp,tq,gx,bg,gm,yes,ya,bad,o9,ig,mmL,ja,vz,eq2,eql,AV.isA,PO.see,PO.act,Vs.q,Rs.and,AV.bare,AV.may,ul,yr,yq,um,nj,un1,oa,qe,ia2,iab,leb,uf,ldb,ldr,ld1,rr,sg,fa1,uh,bnd,tx,ou,ui,src,ej,bo,k7,ae,PO.see.mayO,PO.see.bareO,g9,m7,dv,nv,AV.rv,rvs,AV.elt,frz,freeze,m0,t6,stb,str,st2,pa,par,qi,uk,pt,vo,x9,dp,yi,RV.cells,AV.cells,AV.one,RV.one,AV.boxable,RV.good,b7,s6,kj,ox,vt,yf,ye,ku,km,lz,AV.isNil,ni,ij,af,l8,dt,t5,l5,zw,n9,fwd,yn,ra,q8,i8,di,dz,back,am,imV,imL,imO,idx,z5,obs,keep,ag,sd,gz,pz,nq,ma,uq,Ob.own,Value.oneCell',jp,fw,↓reduceIte,true_and,and_true,and_self,true_implies,imp_self,implies_true,zak,zav,zal,zaa,zad,zaw,zax,zay,zaz,zba,zbb,zbc,zbd,zbe,zbf,zaf,zbg,zbh,zam,zan,zbi,zbj,zbk,zbl,zbm,zao,zbn,zap,reduceCtorEq,zbo,zbp,zbq,zbr,decide_true,decide_false,if_true,if_false,false_and,and_false,not_true,not_false_eq_true,zaq,zbs,zbt,zbu,zbv,zar,beq_self_eq_true,zB,zbw,zbx,false_implies,zby,ne_eq,zbz,zca,zcb,zcc,zcd,zce,rf,re,rk,rj,ri,rm]
 have p:0<=m/\m.natAbs≠9223372036854775808:=by by_cases c:a<0<;>by_cases e:b<0<;>simp [c,e] at f<;>omega
 refine lm ?_ ?_
 ·rw [IntKind.wrap_i64];omega
 unfold b8; omega
theorem amt {a b c e d c':AV} (g:a=e) (f:b=d) (h:c=c'):AV.tup [a,b,c]=AV.tup [e,d,c']:=by rw [g,f,h]
variable {a:Int}
theorem va {k:IntKind} {b:Int} (h:a=b):int k a=int k b:=by rw [h]
theorem aip {a b:Bool} (h:a=b):bl a=bl b:=by rw [h]
theorem ael {b:Int} (e:b8 a) (c:0<b):(-9223372036854775808<=a/b/\a/b<=9223372036854775807)/\(a.tmod b<0->a.tdiv b-1=a/b/\a.tmod b+b=a%b)/\(0<=a.tmod b->a.tdiv b=a/b/\a.tmod b=a%b):=by
 unfold b8 at e;have g:=Int.mul_tdiv_add_tmod a b;have f:a.tmod b<b:=Int.tmod_lt_of_pos a c
 have j:-b<a.tmod b:=by
  have:=Int.lt_tmod_of_pos a c;omega
 refine ⟨?_,λ h=>?_,λ h=>?_⟩
 ·have l:=zcu a b;have k:=zag a c;have i:=zah a (show b≠0 by omega);generalize a/b=q at *;generalize a%b=r at *;constructor
  ·rcases zcl q 0 with d | d
   ·have:b*(q+1)<=1*(q+1):=Int.mul_le_mul_of_nonpos_right (by omega) (by omega);rw [Int.mul_add] at this;omega
   omega
  rcases zcl q 0 with d | d
  ·omega
  have:1*q<=b*q:=Int.mul_le_mul_of_nonneg_right (by omega) d;omega
 ·have:=(Int.ediv_emod_unique (a:=a) (b:=b) (r:=a.tmod b+b) (q:=a.tdiv b-1) c).2 ⟨by rw [Int.mul_sub]; omega,by omega,by omega⟩;exact ⟨this.1.symm,this.2.symm⟩
 have:=(Int.ediv_emod_unique (a:=a) (b:=b) (r:=a.tmod b) (q:=a.tdiv b) c).2 ⟨by omega,by omega,by omega⟩;exact ⟨this.1.symm,this.2.symm⟩
theorem amb (a b:Int) (d:b8 a) (g:b8 b):a9 P0 145 [int .i64 a,int .i64 b] [] (.tup [int .i64 (if 0<b then a/b else 0),int .i64 (if 0<b then a%b else 0),bl (decide (0<b))]) []:=by
 refine ac1.t func145 ?_
 push_cast [ac1,zaa]
 refine c7 (λ h=>?_) (λ h=>?_)
 ·push_cast
  simp at h;have:¬0<b:=by omega
  simp [this]
 push_cast
 simp at h;refine ⟨by omega,by omega,by kernel_rfl,?_⟩;obtain ⟨n,k,i⟩:=ael d h;have j:IntKind.i64.wrap (a.tdiv b)=a.tdiv b:=wrap_i64_tdiv a b d.1 d.2 (by omega);rw [j];refine c7 (λ c=>?_) (λ c=>?_)
 ·push_cast
  simp at c;obtain ⟨e,f⟩:=k c;refine amt (va ?_) (va ?_) (aip ?_)
  ·rw [if_pos h,<- e,a7];unfold b8 at d; rw [e]; omega
  ·rw [if_pos h,<- f,a7];have m:=zag a h;have l:=zah a (show b≠0 by omega);rw [f];unfold b8 at g; omega
  simp [h]
 push_cast
 simp at c;obtain ⟨e,f⟩:=i c;refine amt (va ?_) (va ?_) (aip ?_)
 ·rw [if_pos h,e]
 ·rw [if_pos h,f]
 simp [h]

def zm:Mk P0 f150:={ x:=_ }
def oq:PC:=
 (.seq (.reg [p_a 2 (.box (.t 0)),p_a 3 (.box (.t 1)),p_a 4 (.new [(.r (.v (.int .u64 0))),(.r (.v (.int .u64 0)))])])
 (.seq (.reg [p_s 10 (.fa 1 (.t 2)),p_s 11 (.ld none (.t 10)),p_s 12 (.fa 1 (.t 3)),p_s 13 (.ld none (.t 12)),p_s 14 (.carry false (.t 11) (.t 13) (.c (.r (.v (.int .u64 0))))),
 p_m 9 14,p_s 15 (.ext (.t 9) 0),p_s 16 (.ext (.t 9) 1),p_m 5 15,p_m 6 16])
 (.seq (.reg [p_s 18 (.fa 0 (.t 2)),p_s 19 (.ld none (.t 18)),p_s 20 (.fa 0 (.t 3)),p_s 21 (.ld none (.t 20)),p_m 22 6,p_s 23 (.carry false (.t 19) (.t 21) (.t 22)),p_m 17 23,
 p_s 24 (.ext (.t 17) 0),p_s 25 (.ext (.t 17) 1),p_m 7 24,p_m 8 25])
 (.seq (.reg [p_m 26 7,p_m 27 5,p_s 28 (.build [(.r (.v (.int .u64 0))),(.r (.v (.int .u64 0)))] [(0,1,(.t 26)),(1,1,(.t 27))]),⟨none,none,0,.act (.st 2 (.t 4) (.t 28))⟩])
 .ret))))
theorem vj:Fun P0 104 2 [(4,false,some (169,(some 2)))] oq:=se func104 rfl (by decide) (by kernel_rfl) (by decide) rfl (by kernel_rfl) (by kernel_rfl) (by decide)
def lf:Mk P0 f105:={ x:=_ }
def tl:Mk P0 f102:={ x:=_ }
def mb:Mk P0 f132:={ x:=_ }
def q7 (x:Int):AV:=.r (.agg [.v (.int .u64 (x/18446744073709551616%18446744073709551616)),.v (.int .u64 (x%18446744073709551616))])
theorem jy {b:Int} (d:a=x/18446744073709551616%18446744073709551616) (c:b=x%18446744073709551616):AV.r (.agg [.v (.int .u64 a),.v (.int .u64 b)])=q7 x:=by rw [d,c]; rfl
theorem azh (a:Int) (b:b8 a):a.fdiv (2^min (zcg 63) IntKind.i64.bits)=if a<0 then -1 else 0:=by
 have:(2:Int)^min (zcg 63) IntKind.i64.bits=9223372036854775808:=by decide
 rw [this,Int.fdiv_eq_ediv_of_nonneg _ (by decide)];unfold b8 at b;split<;>omega
theorem w_t (a:Int) (b:b8 a):a9 P0 150 [int .i64 a] [] (q7 a) []:=by
 refine zm.t func150 ?_;simp only [zm,push_cast,↓reduceIte,reduceCtorEq,zB,zE,zA,zS,zL,zD,zM];refine ⟨by decide,jy ?_ ?_⟩
 ·rw [azh a b,IntKind.wrap_u64];unfold b8 at b;split<;>omega
 rw [IntKind.wrap_u64]
theorem ata (a:0<=x) (d:x<18446744073709551616):IntKind.u64.wrap ((zab IntKind.u64.bits (if IntKind.u64.signed=true then -1 else IntKind.u64.max) ^^^ zab IntKind.u64.bits x).toNat)=18446744073709551615-x:=by
 obtain ⟨n,rfl⟩:=Int.eq_ofNat_of_zero_le a;have c:zab IntKind.u64.bits (if IntKind.u64.signed=true then -1 else IntKind.u64.max)=BitVec.allOnes 64:=by rfl
 have b:zab IntKind.u64.bits (n:Int)=zcj 64 n:=by simp [IntKind.bits]
 rw [c,b];show IntKind.u64.wrap ((BitVec.allOnes 64 ^^^ zcj 64 n).toNat:Int) = _;rw [BitVec.allOnes_xor,BitVec.toNat_not,zcy,IntKind.wrap_u64];omega
theorem af1 (a b:Int):a9 P0 104 [q7 a,q7 b] [] (q7 (a+b)) []:=by
 refine vj rfl (by decide) ?_
 push_cast [oq,q7,zaa]
 refine ⟨by omega,by omega,jy (by omega) (by omega)⟩
theorem ag8 (a:Int) (h:-170141183460469231731687303715884105728<=a/\a<170141183460469231731687303715884105728):a9 P0 132 [q7 a] [] (sm a) []:=by
 refine mb.t func132 ?_
 push_cast [mb,q7,zaa]
 rw [IntKind.wrap_i64];refine g7 (w_t _ (by unfold b8; omega)) rfl trivial ?_
 push_cast [q7]
 refine ⟨by kernel_rfl,?_⟩;refine c7 (λ h=>?_) (λ h=>?_)
 ·push_cast
  refine aa9 ?_;unfold b8;simp at h;omega
 push_cast
 simp at h;refine lm ?_ ?_
 ·omega
 unfold b8; omega
theorem aew (a:Int):a9 P0 105 [q7 a] [] (q7 (-a)) []:=by
 refine lf.t func105 ?_
 push_cast [lf,q7,zaa]
 rw [ata (by omega) (by omega),ata (by omega) (by omega)];refine b9 (as':=[q7 (-1-a),q7 1]) ?_ ?_
 ·congr 1;exact jy (by omega) (by omega)
 refine a6 (af1 (-1-a) 1) rfl trivial ?_
 push_cast [q7]
 exact jy (by omega) (by omega)
theorem air (a:Int) (b:b8 a):(a<0->IntKind.u64.wrap (0-IntKind.u64.wrap a)=a.natAbs)/\(¬a<0->IntKind.u64.wrap a=a.natAbs):=by
 unfold b8 at b;rw [IntKind.wrap_u64,IntKind.wrap_u64];omega
theorem aaf (a b:Int) (o:b8 a) (n:b8 b):a9 P0 102 [int .i64 a,int .i64 b] [] (q7 (a*b)) []:=by
 refine tl.t func102 ?_;have l:=o;have k:=n;unfold b8 at l k;obtain ⟨j,e⟩:=air a o;obtain ⟨g,f⟩:=air b n;have i:a.natAbs*b.natAbs=(a*b).natAbs:=(zcr a b).symm;have p:(a*b).natAbs<=9223372036854775808*9223372036854775808:=by rw [<- i]; exact zck (by omega) (by omega)
 have q:(a<0/\b<0->0<a*b)/\(a<0/\0<=b->a*b<=0)/\(0<=a/\b<0->a*b<=0)/\(0<=a/\0<=b->0<=a*b):=
  ⟨λ h=>Int.mul_pos_of_neg_of_neg h.1 h.2,λ h=>Int.mul_nonpos_of_nonpos_of_nonneg (by omega) h.2,λ h=>Int.mul_nonpos_of_nonneg_of_nonpos h.1 (by omega),λ h=>Int.mul_nonneg h.1 h.2⟩
 push_cast [tl,zaa]
 refine c7 (λ d=>?_) (λ d=>?_)<;>push_cast<;>refine c7 (λ c=>?_) (λ c=>?_)<;>push_cast
 all_goals
  simp only [decide_eq_true_eq,decide_eq_false_iff_not] at d c;refine b9 (as':=[int .u64 a.natAbs,int .u64 b.natAbs]) (by first | rw [j d,g c] | rw [j d,f c] | rw [e d,g c] | rw [e d,f c]) ?_;refine a6 (ahi a.natAbs b.natAbs (by omega) (by omega)) rfl trivial ?_;rw [i]
  push_cast [d,c,Bool.true_beq,Bool.false_beq]
  generalize a*b=m at *
 ·exact jy (by omega) (by omega)
 ·refine b9 (as':=[q7 (-m)]) (by congr 1; exact jy (by omega) (by omega)) ?_;refine a6 (aew (-m)) rfl trivial ?_
  push_cast [q7]
  exact jy (by omega) (by omega)
 ·refine b9 (as':=[q7 (-m)]) (by congr 1; exact jy (by omega) (by omega)) ?_;refine a6 (aew (-m)) rfl trivial ?_
  push_cast [q7]
  exact jy (by omega) (by omega)
 exact jy (by omega) (by omega)

def ac0:Mk P0 f138:={ x:=_ }
def af5:Mk P0 f114:={ x:=_ }
def wu:Mk P0 f109:={ x:=_ }
theorem aq3 (x a:Int) (y:Bool) (hx:b8 x) (b:b8 a):a9 P0 138 [.ptr 1000000 0 0,.ptr 1000001 0 0,.ptr 1000002 0 0] [.box [int .i64 x],.box [int .i64 a],.box [bl y]] (.tup [])
 [.box [int .i64 (if b8 (x*a) then x*a else 0)],.box [int .i64 a],.box [bl (decide (b8 (x*a)))]]:=by
 refine ac0.t func138 ?_
 push_cast [ac0,zaa]
 refine a6 (azv x a hx b) rfl trivial ?_
 push_cast [sm]
theorem apf (d:-1<=a) (c:a<=1) (n:Nat):a^(min n (2-n%2))=a^n:=by
 have b:∀m:Nat,1<=m->a^(m+2)=a^m:=λ m f=>by
  have:a=-1\/a=0\/a=1:=by omega
  rcases this with rfl | rfl | rfl
  ·rw [zcm,zcm]; omega
  ·rw [Int.zero_pow (by omega),Int.zero_pow (by omega)]
  rw [Int.one_pow,Int.one_pow]
 induction n using Nat.strongRecOn with
 | ind n ih=>
   rcases (show n=0\/n=1\/n=2\/3<=n by omega) with h | h | h | h
   ·subst h; rfl
   ·subst h; rfl
   ·subst h; rfl
   have:=ih (n-2) (by omega);have e:=b (n-2) (by omega);rw [show n-2+2=n by omega] at e;rw [e,<- this];congr 1;omega
theorem alr {T:Int} {n:Nat} (b:-1<=a/\a<=1->-1<=x/\x<=1) (hx:b8 x) (l:b8 a) (h:¬b8 (x*a)) (c:x*a*a^n=T):¬b8 T:=by
 have d:¬(-1<=a/\a<=1):=λ k=>by
  have:=b k;have d:a=-1\/a=0\/a=1:=by omega
  apply h;unfold b8;rcases d with rfl | rfl | rfl<;>omega
 have f:2<=a.natAbs:=by omega
 have e:9223372036854775808<=(x*a).natAbs:=by unfold b8 at h; omega
 have g:T.natAbs=(x*a).natAbs*a.natAbs^n:=by rw [<- c,zcr,Int.natAbs_pow]
 cases n with
 | zero=>
   simp at c;rw [<- c]; exact h
 | succ n=>
   have i:2<=a.natAbs^(n+1):=Nat.le_trans f (Nat.le_self_pow (by omega) _);have j:9223372036854775808*2<=(x*a).natAbs*a.natAbs^(n+1):=zck e i;rw [<- g] at j;unfold b8;omega
theorem azm (a k:Int) (E:b8 a) (K:b8 k):a9 P0 114 [int .i64 a,int .i64 k] [] (if k<0 then .tup [int .i64 0,bl false] else sm (a^k.toNat)) []:=by
 refine af5.t func114 ?_;simp only [af5,push_cast,↓reduceIte,reduceCtorEq,zB,zE,zA,zS,zL,zD,zM];refine c7 (λ i=>?_) (λ i=>?_)
 ·simp only [decide_eq_true_eq] at i;simp only [if_pos i,push_cast,↓reduceIte,reduceCtorEq,zB,zE,zA,zS,zL,zD,zM]
 simp only [decide_eq_false_iff_not] at i;simp only [if_neg i,push_cast,↓reduceIte,reduceCtorEq,zB,zE,zA,zS,zL,zD,zM];generalize G:a^k.toNat=T;refine aby (λ e ob=>∃b,e 1=int .i64 b/\e 2=.ptr 2 0 0/\0<=b/\b8 b/\a^b.toNat=T/\(a=-1\/a=0\/a=1->b<=2)/\ob=upd 2 (0,.box [int .i64 a]) (λ _=>none)) ?_ (λ C=>?_) (λ C=>?_)
 ·rintro e ob ⟨b,g,f,w,u,B,I,rfl⟩;simp only [g,f,push_cast,↓reduceIte,reduceCtorEq,zB,zE,zA,zS,zL,zD,zM]
  refine d3 [(1,false),(6,false),(2,false),(7,false),(8,false)] (λ vs pos m=>∃(j x:Int) (y:Bool),0<=j/\b8 j/\b8 x/\(y=true->x*a^j.toNat=T)/\(y=false->x=0/\¬b8 T)/\(-1<=a/\a<=1->-1<=x/\x<=1) /\
   vs=[int .i64 j,.ptr 2000000 0 0,.ptr 2000001 0 0,.ptr 2000002 0 0,.fn (.func 138) [.ptr 2000000 0 0,.ptr 2000001 0 0,.ptr 2000002 0 0]]/\pos=[]/\m=[.box [int .i64 x],.box [int .i64 a],.box [bl y]])
   (λ vs _ _=>match vs with | .r (.v (.int _ j))::_=>j.toNat | _=>0) rfl ?_ ?_
  ·simp only [g,f,push_cast,↓reduceIte,reduceCtorEq,zB,zE,zA,zS,zL,zD,zM];exact ⟨b,1,true,w,u,by decide,λ _=>by rw [Int.one_mul,B],by simp,λ _=>by decide,rfl,rfl⟩
  rintro vs pos m ⟨j,x,y,P,H,D,o,z,l,rfl,rfl,rfl⟩;simp only [push_cast,↓reduceIte,reduceCtorEq,zB,zE,zA,zS,zL,zD,zM];refine c7 (λ h=>?_) (λ h=>?_)
  ·have s:0<j:=by
    rcases zcl 0 j with d | d
    ·exact d
    simp [show ¬j>0 by omega] at h
   have hy:y=true:=by simpa [s] using h
   simp only [push_cast,↓reduceIte,reduceCtorEq,zB,zE,zA,zS,zL,zD,zM];refine ⟨by kernel_rfl,?_⟩;refine a6 (aq3 x a y D E) rfl ⟨rfl,rfl,rfl,trivial⟩ ?_;simp only [push_cast,↓reduceIte,reduceCtorEq,zB,zE,zA,zS,zL,zD,zM];have L:IntKind.i64.wrap (j-1)=j-1:=a7 (by unfold b8 at H; omega);rw [L];have A:j.toNat=(j-1).toNat+1:=by omega
   have n:x*a*a^(j-1).toNat=T:=by
    rw [<- o hy,A,zcm,Int.mul_assoc,Int.mul_comm a]
   refine ⟨⟨j-1,_,_,by omega,by unfold b8 at H |-; omega,?_,?_,?_,?_,rfl,rfl⟩,by omega⟩
   ·split
    ·assumption
    decide
   ·intro c;rw [if_pos (of_decide_eq_true c)];exact n
   ·intro c;have c:=of_decide_eq_false c;rw [if_neg c];refine ⟨rfl,?_⟩;exact alr l D E c n
   intro M;have:=l M;have F:a=-1\/a=0\/a=1:=by omega
   split
   ·rcases F with rfl | rfl | rfl<;>omega
   omega
  simp only [push_cast,↓reduceIte,reduceCtorEq,zB,zE,zA,zS,zL,zD,zM];refine ⟨by kernel_rfl,?_⟩;cases y with
  | true=>
    have s:j=0:=by
     rcases zcl 0 j with d | d
     ·simp [d] at h
     omega
    subst s;have:=o rfl;simp at this;subst this;exact lm rfl D
  | false=>
    obtain ⟨rfl,J⟩:=z rfl;exact aa9 J
 ·simp only [push_cast,↓reduceIte,reduceCtorEq,zB,zE,zA,zS,zL,zD,zM]
  have F:a=-1\/a=0\/a=1:=by
   by_cases p:a>=-1<;>by_cases q:a<=1<;>simp [p,q] at C<;>omega
  have O:k.tmod 2=k%2:=by
   rw [zcn (by omega)]
  have N:IntKind.i64.wrap (2-k.tmod 2)=2-k%2:=by rw [O]; exact a7 (by omega)
  rw [N];refine ⟨by decide,min k (2-k%2),rfl,by omega,by unfold b8 at *; omega,?_,by omega⟩;rw [show (min k (2-k%2)).toNat=min k.toNat (2-k.toNat%2) by omega,apf (by omega) (by omega),G]
 simp only [push_cast,↓reduceIte,reduceCtorEq,zB,zE,zA,zS,zL,zD,zM];refine ⟨k,rfl,by omega,K,G,λ h=>?_⟩;rcases h with rfl | rfl | rfl<;>simp at C

theorem arm (h:-1<=a/\a<=1) (n:Nat):-1<=a^n/\a^n<=1:=by
 induction n with
 | zero=>simp
 | succ n ih=>
   rw [zcm];have:a=-1\/a=0\/a=1:=by omega
   rcases this with rfl | rfl | rfl<;>omega
theorem adw (n:Nat):(-1:Int)^n=if n%2=1 then -1 else 1:=by
 induction n with
 | zero=>rfl
 | succ n ih=>
   rw [zcm,ih];split<;>split<;>omega
theorem aw1 (a k:Int) (o:b8 a) (w:b8 k):a9 P0 109 [int .i64 a,int .i64 k] [] (if k<0 then .tup [int .i64 0,bl false] else sm (a^k.toNat)) []:=by
 refine wu.t func109 ?_;simp only [wu,push_cast,↓reduceIte,reduceCtorEq,zB,zE,zA,zS,zL,zD,zM];refine c7 (λ e=>?_) (λ e=>?_)
 ·simp only [decide_eq_true_eq] at e;simp only [if_pos e,push_cast,↓reduceIte,reduceCtorEq,zB,zE,zA,zS,zL,zD,zM]
 simp only [decide_eq_false_iff_not] at e;simp only [if_neg e,push_cast,↓reduceIte,reduceCtorEq,zB,zE,zA,zS,zL,zD,zM]
 refine d3 [(0,false),(1,false),(6,false),(7,false)] (λ vs pos g=>∃(n i:Int),0<=i/\i<=k/\b8 n/\n=a^i.toNat/\vs=[int .i64 a,int .i64 k,int .i64 n,int .i64 i]/\pos=[]/\g=[])
  (λ vs _ _=>match vs with | [_,_,_,.r (.v (.int _ j))]=>(k-j).toNat | _=>0) rfl ?_ ?_
 ·simp only [push_cast,↓reduceIte,reduceCtorEq,zB,zE,zA,zS,zL,zD,zM];exact ⟨1,0,by omega,by omega,by decide,by simp,rfl⟩
 rintro vs pos g ⟨n,i,z,A,l,b,rfl,rfl,rfl⟩;simp only [push_cast,↓reduceIte,reduceCtorEq,zB,zE,zA,zS,zL,zD,zM];unfold b8 at w;refine c7 (λ h=>?_) (λ h=>?_)
 ·simp only [decide_eq_true_eq] at h;simp only [push_cast,↓reduceIte,reduceCtorEq,zB,zE,zA,zS,zL,zD,zM]
  repeat refine And.intro (by simp +contextual) ?_
  have s:n*a*a^(k-i-1).toNat=a^k.toNat:=by
   rw [b,Int.mul_assoc,<- Int.pow_succ',<- Int.pow_add];congr 1;omega
  refine c7 (λ u=>?_) (λ u=>?_)
  ·simp only [push_cast,↓reduceIte,reduceCtorEq,zB,zE,zA,zS,zL,zD,zM]
   have c:n=0\/a=1:=by
    by_cases p:n=0<;>by_cases q:n=1<;>by_cases r:a=1<;>simp [p,q,r] at u |-
   refine lm ?_ ?_
   ·rcases c with c | c
    ·rw [<- s,c]; simp
    rw [b,c,Int.one_pow,Int.one_pow]
   rcases c with c | c
   ·rw [<- s,c]; simp; decide
   rw [c,Int.one_pow]; decide
  simp only [push_cast,↓reduceIte,reduceCtorEq,zB,zE,zA,zS,zL,zD,zM];refine c7 (λ m=>?_) (λ m=>?_)
  ·simp only [push_cast,↓reduceIte,reduceCtorEq,zB,zE,zA,zS,zL,zD,zM];have m:a=-1:=by simpa using m
   subst m;have y:k.tmod 2=k%2:=zcn (by omega);refine ⟨by decide,?_⟩;rw [y];refine c7 (λ f=>?_) (λ f=>?_)
   ·simp only [push_cast,↓reduceIte,reduceCtorEq,zB,zE,zA,zS,zL,zD,zM];have f:k%2=1:=by simpa using f
    exact lm (by rw [adw,if_pos (by omega)]) (by rw [adw,if_pos (by omega)]; decide)
   simp only [push_cast,↓reduceIte,reduceCtorEq,zB,zE,zA,zS,zL,zD,zM];have f:¬k%2=1:=by simpa using f
   exact lm (by rw [adw,if_neg (by omega)]) (by rw [adw,if_neg (by omega)]; decide)
  simp only [push_cast,↓reduceIte,reduceCtorEq,zB,zE,zA,zS,zL,zD,zM];refine a6 (aaf n a l o) rfl trivial ?_;simp only [q7,push_cast,↓reduceIte,reduceCtorEq,zB,zE,zA,zS,zL,zD,zM]
  have B:(n*a).natAbs<=9223372036854775808*9223372036854775808:=by
   rw [zcr];unfold b8 at l o;exact zck (by omega) (by omega)
  refine b9 (as':=[q7 (n*a)]) rfl ?_;refine a6 (ag8 (n*a) (by omega)) rfl trivial ?_;simp only [sm,push_cast,↓reduceIte,reduceCtorEq,zB,zE,zA,zS,zL,zD,zM];refine c7 (λ d=>?_) (λ d=>?_)
  ·simp only [push_cast,↓reduceIte,reduceCtorEq,zB,zE,zA,zS,zL,zD,zM];have d:¬b8 (n*a):=by simpa using d
   refine aa9 ?_;exact alr (λ x=>by rw [b]; exact arm x _) l o d s
  simp only [push_cast,↓reduceIte,reduceCtorEq,zB,zE,zA,zS,zL,zD,zM];have d:b8 (n*a):=by simpa using d
  rw [if_pos d,show IntKind.i64.wrap (i+1)=i+1 from a7 (by omega)];refine ⟨⟨n*a,i+1,by omega,by omega,d,?_,rfl⟩,by omega⟩;rw [show (i+1).toNat=i.toNat+1 by omega,zcm,<- b]
 simp only [decide_eq_false_iff_not] at h;simp only [push_cast,↓reduceIte,reduceCtorEq,zB,zE,zA,zS,zL,zD,zM];have:i=k:=by omega
 subst this;exact lm b (by rw [<- b]; exact l)

def aes:Mk P0 f52:={ x:=_ }
def acj:PC:=
 (.seq (.reg [p_s 2 (.mov (o_i 0))])
 (.seq (.seq (.reg [p_m 3 0,p_s 4 (.bin .geq (.t 3) (.c (.r (.v (.int .u64 4294967296)))))])
 (.cond (.t 4)
 (.seq (.reg [p_m 5 0,p_s 6 (.bin .shr (.t 5) (.c (.r (.v (.int .u64 32))))),p_m 0 6])
 (.reg [p_s 2 (.mov (o_i 32))]))
 .skip))
 (.seq (.seq (.reg [p_m 7 0,p_s 8 (.bin .geq (.t 7) (.c (.r (.v (.int .u64 65536)))))])
 (.cond (.t 8)
 (.seq (.reg [p_m 9 0,p_s 10 (.bin .shr (.t 9) (.c (.r (.v (.int .u64 16))))),p_m 0 10])
 (.reg [p_m 11 2,p_s 12 (.bin .add (.t 11) (o_i 16)),p_m 2 12]))
 .skip))
 (.seq (.seq (.reg [p_m 13 0,p_s 14 (.bin .geq (.t 13) (.c (.r (.v (.int .u64 256)))))])
 (.cond (.t 14)
 (.seq (.reg [p_m 15 0,p_s 16 (.bin .shr (.t 15) (.c (.r (.v (.int .u64 8))))),p_m 0 16])
 (.reg [p_m 17 2,p_s 18 (.bin .add (.t 17) (o_i 8)),p_m 2 18]))
 .skip))
 (.seq (.reg [p_m 19 2,p_m 20 0,p_s 21 (.conv .u8 (.t 20)),p_s 22 (.ixs (.c (.r (.v (.string ⟨#[0,1,2,2,3,3,3,3,4,4,4,4,4,4,4,4,5,5,5,5,5,5,5,5,5,5,5,5,5,5,5,5,6,6,6,6,6,6,6,6,6,6,6,6,6,6,6,6,6,6,6,6,6,6,6,6,6,6,6,6,6,6,6,6,7,7,7,7,7,7,7,7,7,7,7,7,7,7,7,7,7,7,7,7,7,7,7,7,7,7,7,7,7,7,7,7,7,7,7,7,7,7,7,7,7,7,7,7,7,7,7,7,7,7,7,7,7,7,7,7,7,7,7,7,7,7,7,7,8,8,8,8,8,8,8,8,8,8,8,8,8,8,8,8,8,8,8,8,8,8,8,8,8,8,8,8,8,8,8,8,8,8,8,8,8,8,8,8,8,8,8,8,8,8,8,8,8,8,8,8,8,8,8,8,8,8,8,8,8,8,8,8,8,8,8,8,8,8,8,8,8,8,8,8,8,8,8,8,8,8,8,8,8,8,8,8,8,8,8,8,8,8,8,8,8,8,8,8,8,8,8,8,8,8,8,8,8,8,8,8,8,8,8,8,8,8,8,8,8,8,8,8,8,8,8,8]⟩)))) (.t 21)),
 p_s 23 (.conv .i64 (.t 22)),p_s 24 (.bin .add (.t 19) (.t 23)),p_m 2 24])
 .ret)))))
theorem aea:Fun P0 91 1 [(2,false,none)] acj:=se func91 rfl (by decide) (by kernel_rfl) (by decide) rfl (by kernel_rfl) (by kernel_rfl) (by decide)

structure Ei where
 a:Int
 b:Int
deriving DecidableEq
def Ei.rv (z:Ei):RV:=.agg [.v (.int .i64 z.a),.v (.int .i64 z.b)]
def Ei.v (z:Ei):AV:=.r z.rv
def Ei.mul (x y:Ei):Ei:=⟨x.a*y.a-x.b*y.b,x.a*y.b+x.b*y.a+x.b*y.b⟩
def Ei.sub (x y:Ei):Ei:=⟨x.a-y.a,x.b-y.b⟩
def Ei.conj (x:Ei):Ei:=⟨x.a+x.b,-x.b⟩
def Ei.In (z:Ei) (n:Int):Prop:=(-n<=z.a/\z.a<=n)/\(-n<=z.b/\z.b<=n)
def Ei.H (z:Ei) (n:Int):Prop:=(-n<=z.a/\z.a<=n)/\(-n<=z.b/\z.b<=n)/\(-n<=z.a+z.b/\z.a+z.b<=n)
theorem Ei.ext' {x y:Ei} (d:x.a=y.a) (c:x.b=y.b):x=y:=by cases x; cases y; simp_all
variable {z:Ei} {n m:Int}
theorem Ei.In.mono (h:z.In n) (a:n<=m):z.In m:=by unfold Ei.In at *; omega
theorem Ei.H.mono (h:z.H n) (a:n<=m):z.H m:=by unfold Ei.H at *; omega
theorem Ei.H.in (h:z.H n):z.In n:=by unfold Ei.H Ei.In at *; omega
def cd:Ei:=⟨2,1⟩
theorem uz (c:-n<=x/\x<=n) (a:-m<=y/\y<=m):-(n*m)<=x*y/\x*y<=n*m:=by
 have h:(x*y).natAbs<=n.toNat*m.toNat:=by rw [zcr]; exact zck (by omega) (by omega)
 have b:((n.toNat*m.toNat:Nat):Int)=n*m:=by
  rw [Int.natCast_mul,Int.toNat_of_nonneg (by omega),Int.toNat_of_nonneg (by omega)]
 omega
def d9 (d s t:Int):Prop:=(-d<=2*s+t/\2*s+t<=d)/\(-d<=s+2*t/\s+2*t<=d)/\(-d<=s-t/\s-t<=d)
instance (d s t:Int):Decidable (d9 d s t):=inferInstanceAs (Decidable (_/\_/\_))
def cp (d s t:Int):Ei:=if d9 d s t then ⟨0,0⟩ else if d9 d s (t-d) then ⟨0,1⟩ else if d9 d (s-d) t then ⟨1,0⟩ else ⟨1,1⟩
def Ei.round (u:Ei) (d:Int):Ei:=⟨u.a/d+(cp d (u.a%d) (u.b%d)).a,u.b/d+(cp d (u.a%d) (u.b%d)).b⟩
variable {d s t:Int}
theorem aga (c:0<=s/\s<d) (e:0<=t/\t<d) :
 d9 d (s-(cp d s t).a*d) (t-(cp d s t).b*d)/\(0<=(cp d s t).a/\(cp d s t).a<=1)/\(0<=(cp d s t).b/\(cp d s t).b<=1):=by
 unfold cp;split
 ·next h=>unfold d9 at *; dsimp only; omega
 split
 ·next h=>unfold d9 at *; dsimp only; omega
 split
 ·next h=>unfold d9 at *; dsimp only; omega
 next h=>unfold d9 at *; dsimp only; omega
theorem ak0 {i k:Int} (r:0<=s/\s<d) (p:0<=t/\t<d) (o:-1<=i/\i<=2) (q:-1<=k/\k<=2)
 (h:d9 d (s-i*d) (t-k*d)) (e:∀a,-1<=a->a<k->¬d9 d (s-i*d) (t-a*d))
 (b:∀f a,-1<=f->f<i->-1<=a->a<=2->¬d9 d (s-f*d) (t-a*d)):cp d s t=⟨i,k⟩:=by
 have m:i=-1\/i=0\/i=1\/i=2:=by omega
 have n:k=-1\/k=0\/k=1\/k=2:=by omega
 have u:(-1:Int)*d=-d:=by omega
 have l:(0<i\/(i=0/\0<k))->¬d9 d s t:=λ c=>by
  rcases c with c | ⟨c,c'⟩
  ·have:=b 0 0 (by omega) c (by omega) (by omega); simpa using this
  have:=e 0 (by omega) c'; rw [c] at this; simpa using this
 have g:(0<i\/(i=0/\1<k))->¬d9 d s (t-d):=λ c=>by
  rcases c with c | ⟨c,c'⟩
  ·have:=b 0 1 (by omega) c (by omega) (by omega); simpa using this
  have:=e 1 (by omega) c'; rw [c] at this; simpa using this
 have j:(1<i\/(i=1/\0<k))->¬d9 d (s-d) t:=λ c=>by
  rcases c with c | ⟨c,c'⟩
  ·have:=b 1 0 (by omega) c (by omega) (by omega); simpa using this
  have:=e 0 (by omega) c'; rw [c] at this; simpa using this
 clear e b
 rcases m with rfl | rfl | rfl | rfl<;>rcases n with rfl | rfl | rfl | rfl <;>
  first
  | (exfalso; unfold d9 at h; omega)
  | (simp only [Int.zero_mul,Int.one_mul,Int.sub_zero] at h
     simp [cp,h]; done)
  | (simp only [Int.zero_mul,Int.one_mul,Int.sub_zero] at h
     simp [cp,h,l,g,j])
theorem arv (e:0<=s/\s<d) (f:0<=t/\t<d)
 (c:∀b a,-1<=b->b<3->-1<=a->a<=2->¬d9 d (s-b*d) (t-a*d)):False:=by
 obtain ⟨h,i,g⟩:=aga e f;exact c _ _ (by omega) (by omega) (by omega) (by omega) h
def fr (d a b:Int) (z:Ei):Int:=d*(z.a*z.a+z.a*z.b+z.b*z.b)-z.a*(2*a+b)-z.b*(a+2*b)
def pk (d a b:Int) (p:Int×Ei) (z:Ei):Int×Ei:=if fr d a b z<p.1 then (fr d a b z,z) else p
def ut:List Ei:=[⟨0,1⟩,⟨1,0⟩,⟨1,1⟩]
theorem akz {b:Int} (j:0<=a/\a<d) (i:0<=b/\b<d):(ut.foldl (pk d a b) (0,⟨0,0⟩)).2=cp d a b:=by
 simp only [ut,List.foldl_cons,List.foldl_nil];have e:fr d a b ⟨0,1⟩=d-(a+2*b):=by simp [fr]
 have h:fr d a b ⟨1,0⟩=d-(2*a+b):=by simp [fr]
 have g:fr d a b ⟨1,1⟩=d*3-(2*a+b)-(a+2*b):=by simp [fr]
 unfold cp;by_cases f:d-(a+2*b)<0
 ·by_cases c2:d-(2*a+b)<d-(a+2*b)
  ·by_cases c:d*3-(2*a+b)-(a+2*b)<d-(2*a+b)
   ·simp only [pk,e,h,g,f,c2,c,if_true];rw [if_neg (by unfold d9; omega),if_neg (by unfold d9; omega),if_neg (by unfold d9; omega)]
   simp only [pk,e,h,g,f,c2,c,if_true,if_false];rw [if_neg (by unfold d9; omega),if_neg (by unfold d9; omega),if_pos (by unfold d9; omega)]
  by_cases c:d*3-(2*a+b)-(a+2*b)<d-(a+2*b)
  ·simp only [pk,e,h,g,f,c2,c,if_true,if_false];rw [if_neg (by unfold d9; omega),if_neg (by unfold d9; omega),if_neg (by unfold d9; omega)]
  simp only [pk,e,h,g,f,c2,c,if_true,if_false];rw [if_neg (by unfold d9; omega),if_pos (by unfold d9; omega)]
 by_cases c2:d-(2*a+b)<0
 ·by_cases c:d*3-(2*a+b)-(a+2*b)<d-(2*a+b)
  ·simp only [pk,e,h,g,f,c2,c,if_true,if_false];rw [if_neg (by unfold d9; omega),if_neg (by unfold d9; omega),if_neg (by unfold d9; omega)]
  simp only [pk,e,h,g,f,c2,c,if_true,if_false];rw [if_neg (by unfold d9; omega),if_neg (by unfold d9; omega),if_pos (by unfold d9; omega)]
 by_cases c:d*3-(2*a+b)-(a+2*b)<0
 ·exfalso; omega
 simp only [pk,e,h,g,f,c2,c,if_true,if_false];rw [if_pos (by unfold d9; omega)]
theorem j8 (u:Ei) (c:0<d):d9 d (u.a-(u.round d).a*d) (u.b-(u.round d).b*d):=by
 have m:=zcu u.a d;have l:=zcu u.b d;have f:=zag u.a c;have k:=zah u.a (show d≠0 by omega);have g:=zag u.b c;have e:=zah u.b (show d≠0 by omega);obtain ⟨h,_⟩:=aga (d:=d) (s:=u.a%d) (t:=u.b%d) ⟨k,f⟩ ⟨e,g⟩
 have j:u.a-(u.round d).a*d=u.a%d-(cp d (u.a%d) (u.b%d)).a*d:=by
  simp only [Ei.round,Int.add_mul];rw [Int.mul_comm (u.a/d) d];omega
 have i:u.b-(u.round d).b*d=u.b%d-(cp d (u.a%d) (u.b%d)).b*d:=by
  simp only [Ei.round,Int.add_mul];rw [Int.mul_comm (u.b/d) d];omega
 rw [j,i]; exact h
def pr (z:Ei):Ei:=(z.mul ⟨3,-1⟩).round 7
def lft (z:Ei):Ei:=z.sub ((pr z).mul cd)
def adk (l:Ei):Nat:=if l=⟨1,0⟩ then 1 else if l=⟨0,1⟩ then 2 else if l=⟨-1,1⟩ then 3 else if l=⟨-1,0⟩ then 4 else if l=⟨0,-1⟩ then 5 else if l=⟨1,-1⟩ then 6 else 0
def dg (z:Ei):Nat:=adk (lft z)
def uni (d:Nat):Ei:=match d with | 0=>⟨1,0⟩ | 1=>⟨0,1⟩ | 2=>⟨-1,1⟩ | 3=>⟨-1,0⟩ | 4=>⟨0,-1⟩ | _=>⟨1,-1⟩
def a0f (z:Ei) (d:Nat):Ei:=if d=0 then z.mul cd else (z.mul cd).add (uni (d-1))
theorem abw (z:Ei):dg z<7:=by
 unfold dg adk; repeat' split
 all_goals omega
theorem aak (z:Ei):∃l:Ei,lft z=l/\l.H 1/\z.a=2*(pr z).a-(pr z).b+l.a/\z.b=(pr z).a+3*(pr z).b+l.b:=by
 have h:=j8 (z.mul ⟨3,-1⟩) (d:=7) (by decide);refine ⟨lft z,rfl,?_,?_,?_⟩
 ·unfold d9 at h;unfold Ei.H lft Ei.sub pr;simp only [Ei.mul,cd] at *;generalize Ei.round _ 7=q at *;simp only [Int.mul_one,Int.mul_neg] at *;omega
 ·simp only [lft,Ei.sub,Ei.mul,cd]; omega
 simp only [lft,Ei.sub,Ei.mul,cd]; omega
def anc:Nat->Ei->Ei
 | 0,z=>z
 | k+1,z=>anc k (pr z)
theorem afk (k:Nat) (z:Ei):anc (k+1) z=pr (anc k z):=by
 induction k generalizing z with
 | zero=>rfl
 | succ k ih=>rw [anc,ih]; rfl
def val:Nat->Ei->Nat
 | 0,_=>0
 | r+1,z=>val r (pr z)*8+dg z
theorem aod (r:Nat) (z:Ei):val r z<8^r:=by
 induction r generalizing z with
 | zero=>simp [val]
 | succ r ih=>
   have:=ih (pr z);have:=abw z;rw [val,zcf];omega
theorem atp (r i:Nat) (z:Ei) (h:i<=r):val r z/8^i=val (r-i) (anc i z):=by
 induction i generalizing r z with
 | zero=>simp [anc]
 | succ i ih=>
   obtain ⟨r,rfl⟩:∃m,r=m+1:=⟨r-1,by omega⟩
   rw [show r+1-(i+1)=r-i by omega,anc,<- ih r (pr z) (by omega),zcf,zas,<- zcv,val];have:=abw z;congr 1;omega
def okc (r:Nat) (z:Ei):Prop:=r<=12/\z.In 1073741824/\(-512<=(anc r z).a/\(anc r z).a<=511)/\(-512<=(anc r z).b/\(anc r z).b<=511)
instance (r:Nat) (z:Ei):Decidable (okc r z):=by unfold okc Ei.In; infer_instance
def jb (r:Nat) (q:Ei):Nat:=((16+r)*1024+(q.a+512).toNat)*1024+(q.b+512).toNat
def ec (r:Nat) (z:Ei):Nat:=(jb r (anc r z)*8^r+val r z)*8^(12-r)+(8^(12-r)-1)
def dgt (w i:Nat):Nat:=w/8^(12-i)%8
def abc (w:Nat):Nat:=w/72057594037927936%16
def a0g (w:Nat):Ei:=⟨((w/70368744177664%1024:Nat):Int)-512,((w/68719476736%1024:Nat):Int)-512⟩
def a0p (w:Nat):Nat->Ei
 | 0=>a0g w
 | i+1=>a0f (a0p w i) (dgt w (i+1))
def isW (w:Nat):Prop:=w/1152921504606846976=1/\abc w<=12/\∀i,1<=i->i<=12->(dgt w i=7↔abc w<i)
theorem aeu (r:Nat) (z:Ei) (f:r<=12):ec r z/68719476736=jb r (anc r z):=by
 have b:=aod r z;have e:(68719476736:Nat)=8^r*8^(12-r):=by rw [<- zac,show r+(12-r)=12 by omega]
 have d:0<8^(12-r):=zch (by decide);have c:0<8^r:=zch (by decide);rw [e,zas (8^r),<- zcv,ec]
 have a:((jb r (anc r z)*8^r+val r z)*8^(12-r)+(8^(12-r)-1))/8^(12-r)=jb r (anc r z)*8^r+val r z:=by
  rw [Nat.add_comm,zcs _ _ d,zcw (by omega)]; omega
 rw [a,Nat.add_comm,zcs _ _ c,zcw b]; omega
theorem aiw (r i:Nat) (z:Ei) (g:r<=12) (f:1<=i) (d:i<=r):dgt (ec r z) i=dg (anc (r-i) z):=by
 have c:0<8^(12-r):=zch (by decide);have e:8^(12-i)=8^(12-r)*8^(r-i):=by rw [<- zac,show 12-r+(r-i)=12-i by omega]
 unfold dgt ec;rw [e,<- zcv]
 have a:((jb r (anc r z)*8^r+val r z)*8^(12-r)+(8^(12-r)-1))/8^(12-r)=jb r (anc r z)*8^r+val r z:=by
  rw [Nat.add_comm,zcs _ _ c,zcw (by omega)]; omega
 rw [a]
 have b:jb r (anc r z)*8^r=jb r (anc r z)*8^(i-1)*8*8^(r-i):=by
  rw [zae (jb r (anc r z)),<- zcf,zae,<- zac,show i-1+1+(r-i)=r by omega]
 rw [b,Nat.add_comm,zcs _ _ (zch (by decide)),atp r (r-i) z (by omega),show r-(r-i)=(i-1)+1 by omega,val];have:=abw (anc (r-i) z);generalize jb r (anc r z)*8^(i-1)=m;omega
theorem afn (r i:Nat) (z:Ei) (f:r<i) (d:i<=12):dgt (ec r z) i=7:=by
 unfold dgt ec;have e:8^(12-r)=8^(i-r-1)*8*8^(12-i):=by rw [<- zcf,<- zac,show i-r-1+1+(12-i)=12-r by omega]
 have c:0<8^(12-i):=zch (by decide);have a:0<8^(i-r-1):=zch (by decide);rw [e];generalize jb r (anc r z)*8^r+val r z=m;generalize hx:8^(i-r-1)=x at *;generalize hy:8^(12-i)=y at *
 have b:m*(x*8*y)+(x*8*y-1)=(y-1)+(m*(x*8)+(x*8-1))*y:=by
  have:(x*8-1)*y=x*8*y-y:=by rw [Nat.sub_mul,Nat.one_mul]
  have g:y<=x*8*y:=Nat.le_mul_of_pos_left _ (by omega);rw [zat,this,<- zae];omega
 rw [b,zcs _ _ c,zcw (by omega)];have h:m*(x*8)=m*x*8:=(zae _ _ _).symm;omega
theorem agn (r:Nat) (q:Ei) (d:r<=12) (e:-512<=q.a/\q.a<=511) (c:-512<=q.b/\q.b<=511) :
 jb r q/16777216=1/\jb r q/1048576%16=r/\((jb r q/1024%1024:Nat):Int)-512=q.a/\((jb r q%1024:Nat):Int)-512=q.b:=by
 unfold jb;omega
theorem ag7 (r:Nat) (z:Ei) (h:okc r z):ec r z<18446744073709551616:=by
 have b:=aeu r z h.1;have a:=agn r (anc r z) h.1 h.2.2.1 h.2.2.2;omega
theorem aiv (r:Nat) (z:Ei) (h:okc r z):isW (ec r z)/\abc (ec r z)=r:=by
 have f:=aeu r z h.1;have e:=agn r (anc r z) h.1 h.2.2.1 h.2.2.2;have b:abc (ec r z)=r:=by unfold abc; omega
 refine ⟨⟨by omega,by rw [b]; exact h.1,λ i c d=>?_⟩,b⟩;rw [b];by_cases a:r<i
 ·simp [a,afn r i z a d]
 simp only [a,iff_false];rw [aiw r i z h.1 c (by omega)];have:=abw (anc (r-i) z);omega

def c9:Nat->Ei
 | 0=>⟨1,0⟩
 | k+1=>(c9 k).mul cd
theorem jq (k:Nat) (h:k<=12):(c9 k).In 120000:=by
 have:∀j:Fin 13,(c9 j.val).In 120000:=by unfold Ei.In; decide
 exact this ⟨k,by omega⟩
def ax (x y:Int):Ei:=⟨45*x-26*y,52*y⟩
def g8 (x y:Int) (r:Nat):Ei:=((ax x y).mul (c9 (12-r)).conj).round (2340*7^(12-r))
theorem vr (h:z.H n) (b:3*n+4<7*(m+1)):(pr z).H m:=by
 have a:=j8 (z.mul ⟨3,-1⟩) (d:=7) (by decide);unfold d9 at a;unfold Ei.H pr at *;simp only [Ei.mul] at *;generalize Ei.round _ 7=q at *;simp only [Int.mul_one,Int.mul_neg] at *;omega
theorem bd (h:z.H n) (f:19*n+330<343*(m+1)):(anc 3 z).H m:=by
 obtain ⟨s,_,c,a,k⟩:=aak z;obtain ⟨i,_,e,l,g⟩:=aak (pr z);obtain ⟨b,_,j,o,d⟩:=aak (pr (pr z));show (pr (pr (pr z))).H m;generalize pr (pr (pr z))=q at *;generalize pr (pr z)=p at *;generalize pr z=r at *;unfold Ei.H at *;omega
theorem al5 (x y:Int) (hx:0<=x/\x<1073741824) (hy:0<=y/\y<1073741824):(g8 x y 0).H 260:=by
 have h:=j8 ((ax x y).mul (c9 (12-0)).conj) (d:=2340*7^(12-0)) (by decide);have e:(c9 (12-0)).conj=⟨-128231,102960⟩:=by decide
 have a:(2340*7^(12-0):Int)=32388612050340:=by decide
 unfold g8;generalize Ei.round _ _=q at *;rw [e,a] at h;unfold d9 Ei.H at *;simp only [Ei.mul,ax] at *;omega
theorem al4 (x y:Int) (hx:0<=x/\x<1073741824) (hy:0<=y/\y<1073741824):(g8 x y 1).H 734:=by
 have h:=j8 ((ax x y).mul (c9 (12-1)).conj) (d:=2340*7^(12-1)) (by decide);have e:(c9 (12-1)).conj=⟨-51346,25807⟩:=by decide
 have a:(2340*7^(12-1):Int)=4626944578620:=by decide
 unfold g8;generalize Ei.round _ _=q at *;rw [e,a] at h;unfold d9 Ei.H at *;simp only [Ei.mul,ax] at *;omega
theorem al3 (x y:Int) (hx:0<=x/\x<1073741824) (hy:0<=y/\y<1073741824):(g8 x y 2).H 2004:=by
 have h:=j8 ((ax x y).mul (c9 (12-2)).conj) (d:=2340*7^(12-2)) (by decide);have e:(c9 (12-2)).conj=⟨-18357,3725⟩:=by decide
 have a:(2340*7^(12-2):Int)=660992082660:=by decide
 unfold g8;generalize Ei.round _ _=q at *;rw [e,a] at h;unfold d9 Ei.H at *;simp only [Ei.mul,ax] at *;omega
theorem al2 (x y:Int) (hx:0<=x/\x<1073741824) (hy:0<=y/\y<1073741824):(g8 x y 3).H 4887:=by
 have h:=j8 ((ax x y).mul (c9 (12-3)).conj) (d:=2340*7^(12-3)) (by decide);have e:(c9 (12-3)).conj=⟨-5777,-1026⟩:=by decide
 have a:(2340*7^(12-3):Int)=94427440380:=by decide
 unfold g8;generalize Ei.round _ _=q at *;rw [e,a] at h;unfold d9 Ei.H at *;simp only [Ei.mul,ax] at *;omega
theorem al1 (x y:Int) (hx:0<=x/\x<1073741824) (hy:0<=y/\y<1073741824):(g8 x y 4).H 13376:=by
 have h:=j8 ((ax x y).mul (c9 (12-4)).conj) (d:=2340*7^(12-4)) (by decide);have e:(c9 (12-4)).conj=⟨-1504,-1265⟩:=by decide
 have a:(2340*7^(12-4):Int)=13489634340:=by decide
 unfold g8;generalize Ei.round _ _=q at *;rw [e,a] at h;unfold d9 Ei.H at *;simp only [Ei.mul,ax] at *;omega
theorem al0 (x y:Int) (hx:0<=x/\x<1073741824) (hy:0<=y/\y<1073741824):(g8 x y 5).H 37163:=by
 have h:=j8 ((ax x y).mul (c9 (12-5)).conj) (d:=2340*7^(12-5)) (by decide);have e:(c9 (12-5)).conj=⟨-249,-757⟩:=by decide
 have a:(2340*7^(12-5):Int)=1927090620:=by decide
 unfold g8;generalize Ei.round _ _=q at *;rw [e,a] at h;unfold d9 Ei.H at *;simp only [Ei.mul,ax] at *;omega
theorem alz (x y:Int) (hx:0<=x/\x<1073741824) (hy:0<=y/\y<1073741824):(g8 x y 6).H 92189:=by
 have h:=j8 ((ax x y).mul (c9 (12-6)).conj) (d:=2340*7^(12-6)) (by decide);have e:(c9 (12-6)).conj=⟨37,-360⟩:=by decide
 have a:(2340*7^(12-6):Int)=275298660:=by decide
 unfold g8;generalize Ei.round _ _=q at *;rw [e,a] at h;unfold d9 Ei.H at *;simp only [Ei.mul,ax] at *;omega
theorem aly (x y:Int) (hx:0<=x/\x<1073741824) (hy:0<=y/\y<1073741824):(g8 x y 7).H 243699:=by
 have h:=j8 ((ax x y).mul (c9 (12-7)).conj) (d:=2340*7^(12-7)) (by decide);have e:(c9 (12-7)).conj=⟨62,-149⟩:=by decide
 have a:(2340*7^(12-7):Int)=39328380:=by decide
 unfold g8;generalize Ei.round _ _=q at *;rw [e,a] at h;unfold d9 Ei.H at *;simp only [Ei.mul,ax] at *;omega
theorem alx (x y:Int) (hx:0<=x/\x<1073741824) (hy:0<=y/\y<1073741824):(g8 x y 8).H 688202:=by
 have h:=j8 ((ax x y).mul (c9 (12-8)).conj) (d:=2340*7^(12-8)) (by decide);have e:(c9 (12-8)).conj=⟨39,-55⟩:=by decide
 have a:(2340*7^(12-8):Int)=5618340:=by decide
 unfold g8;generalize Ei.round _ _=q at *;rw [e,a] at h;unfold d9 Ei.H at *;simp only [Ei.mul,ax] at *;omega
theorem alw (x y:Int) (hx:0<=x/\x<1073741824) (hy:0<=y/\y<1073741824):(g8 x y 9).H 1735123:=by
 have h:=j8 ((ax x y).mul (c9 (12-9)).conj) (d:=2340*7^(12-9)) (by decide);have e:(c9 (12-9)).conj=⟨19,-18⟩:=by decide
 have a:(2340*7^(12-9):Int)=802620:=by decide
 unfold g8;generalize Ei.round _ _=q at *;rw [e,a] at h;unfold d9 Ei.H at *;simp only [Ei.mul,ax] at *;omega
theorem ajo (x y:Int) (hx:0<=x/\x<1073741824) (hy:0<=y/\y<1073741824):(g8 x y 10).H 4429444:=by
 have h:=j8 ((ax x y).mul (c9 (12-10)).conj) (d:=2340*7^(12-10)) (by decide);have e:(c9 (12-10)).conj=⟨8,-5⟩:=by decide
 have a:(2340*7^(12-10):Int)=114660:=by decide
 unfold g8;generalize Ei.round _ _=q at *;rw [e,a] at h;unfold d9 Ei.H at *;simp only [Ei.mul,ax] at *;omega
theorem ajn (x y:Int) (hx:0<=x/\x<1073741824) (hy:0<=y/\y<1073741824):(g8 x y 11).H 12717090:=by
 have h:=j8 ((ax x y).mul (c9 (12-11)).conj) (d:=2340*7^(12-11)) (by decide);have e:(c9 (12-11)).conj=⟨3,-1⟩:=by decide
 have a:(2340*7^(12-11):Int)=16380:=by decide
 unfold g8;generalize Ei.round _ _=q at *;rw [e,a] at h;unfold d9 Ei.H at *;simp only [Ei.mul,ax] at *;omega
theorem ajm (x y:Int) (hx:0<=x/\x<1073741824) (hy:0<=y/\y<1073741824):(g8 x y 12).H 32579347:=by
 have h:=j8 ((ax x y).mul (c9 (12-12)).conj) (d:=2340*7^(12-12)) (by decide);have e:(c9 (12-12)).conj=⟨1,0⟩:=by decide
 have a:(2340*7^(12-12):Int)=2340:=by decide
 unfold g8;generalize Ei.round _ _=q at *;rw [e,a] at h;unfold d9 Ei.H at *;simp only [Ei.mul,ax] at *;omega
theorem ayw (a:z.H 260):(anc 0 z).H 511:=by
 exact a.mono (by decide)
theorem anh (x y:Int) (hx:0<=x/\x<1073741824) (hy:0<=y/\y<1073741824):(anc 0 (g8 x y 0)).H 511:=ayw (al5 x y hx hy)
theorem ayv (a:z.H 734):(anc 1 z).H 511:=by
 have b:=vr (m:=315) a (by decide);exact b.mono (by decide)
theorem ang (x y:Int) (hx:0<=x/\x<1073741824) (hy:0<=y/\y<1073741824):(anc 1 (g8 x y 1)).H 511:=ayv (al4 x y hx hy)
theorem ayu (b:z.H 2004):(anc 2 z).H 511:=by
 have c:=vr (m:=859) b (by decide);have a:=vr (m:=368) c (by decide);exact a.mono (by decide)
theorem anf (x y:Int) (hx:0<=x/\x<1073741824) (hy:0<=y/\y<1073741824):(anc 2 (g8 x y 2)).H 511:=ayu (al3 x y hx hy)
theorem ayt (a:z.H 4887):(anc 3 z).H 511:=by
 have b:=bd (m:=271) a (by decide);exact b.mono (by decide)
theorem ane (x y:Int) (hx:0<=x/\x<1073741824) (hy:0<=y/\y<1073741824):(anc 3 (g8 x y 3)).H 511:=ayt (al2 x y hx hy)
theorem ays (b:z.H 13376):(anc 4 z).H 511:=by
 have c:=vr (m:=5733) b (by decide);have a:=bd (m:=318) c (by decide);exact a.mono (by decide)
theorem anb (x y:Int) (hx:0<=x/\x<1073741824) (hy:0<=y/\y<1073741824):(anc 4 (g8 x y 4)).H 511:=ays (al1 x y hx hy)
theorem ayr (c:z.H 37163):(anc 5 z).H 511:=by
 have d:=vr (m:=15927) c (by decide);have b:=vr (m:=6826) d (by decide);have a:=bd (m:=379) b (by decide);exact a.mono (by decide)
theorem ana (x y:Int) (hx:0<=x/\x<1073741824) (hy:0<=y/\y<1073741824):(anc 5 (g8 x y 5)).H 511:=ayr (al0 x y hx hy)
theorem ayq (b:z.H 92189):(anc 6 z).H 511:=by
 have c:=bd (m:=5107) b (by decide);have a:=bd (m:=283) c (by decide);exact a.mono (by decide)
theorem am9 (x y:Int) (hx:0<=x/\x<1073741824) (hy:0<=y/\y<1073741824):(anc 6 (g8 x y 6)).H 511:=ayq (alz x y hx hy)
theorem ayp (c:z.H 243699):(anc 7 z).H 511:=by
 have d:=vr (m:=104443) c (by decide);have b:=bd (m:=5786) d (by decide);have a:=bd (m:=321) b (by decide);exact a.mono (by decide)
theorem am8 (x y:Int) (hx:0<=x/\x<1073741824) (hy:0<=y/\y<1073741824):(anc 7 (g8 x y 7)).H 511:=ayp (aly x y hx hy)
theorem ayo (d:z.H 688202):(anc 8 z).H 511:=by
 have b:=vr (m:=294944) d (by decide);have a:=vr (m:=126405) b (by decide);have c:=bd (m:=7002) a (by decide);have e:=bd (m:=388) c (by decide);exact e.mono (by decide)
theorem am7 (x y:Int) (hx:0<=x/\x<1073741824) (hy:0<=y/\y<1073741824):(anc 8 (g8 x y 8)).H 511:=ayo (alx x y hx hy)
theorem ayn (c:z.H 1735123):(anc 9 z).H 511:=by
 have d:=bd (m:=96115) c (by decide);have b:=bd (m:=5325) d (by decide);have a:=bd (m:=295) b (by decide);exact a.mono (by decide)
theorem am6 (x y:Int) (hx:0<=x/\x<1073741824) (hy:0<=y/\y<1073741824):(anc 9 (g8 x y 9)).H 511:=ayn (alw x y hx hy)
theorem avy (d:z.H 4429444):(anc 10 z).H 511:=by
 have b:=vr (m:=1898333) d (by decide);have a:=bd (m:=105156) b (by decide);have c:=bd (m:=5825) a (by decide);have e:=bd (m:=323) c (by decide);exact e.mono (by decide)
theorem aky (x y:Int) (hx:0<=x/\x<1073741824) (hy:0<=y/\y<1073741824):(anc 10 (g8 x y 10)).H 511:=avy (ajo x y hx hy)
theorem avx (e:z.H 12717090):(anc 11 z).H 511:=by
 have b:=vr (m:=5450182) e (by decide);have a:=vr (m:=2335792) b (by decide);have c:=bd (m:=129388) a (by decide);have f:=bd (m:=7168) c (by decide);have d:=bd (m:=398) f (by decide);exact d.mono (by decide)
theorem akx (x y:Int) (hx:0<=x/\x<1073741824) (hy:0<=y/\y<1073741824):(anc 11 (g8 x y 11)).H 511:=avx (ajn x y hx hy)
theorem avw (d:z.H 32579347):(anc 12 z).H 511:=by
 have b:=bd (m:=1804687) d (by decide);have a:=bd (m:=99969) b (by decide);have c:=bd (m:=5538) a (by decide);have e:=bd (m:=307) c (by decide);exact e.mono (by decide)
theorem akw (x y:Int) (hx:0<=x/\x<1073741824) (hy:0<=y/\y<1073741824):(anc 12 (g8 x y 12)).H 511:=avw (ajm x y hx hy)
theorem axr (x y:Int) (r:Nat) (hx:0<=x/\x<1073741824) (hy:0<=y/\y<1073741824) (a:r<=12):(g8 x y r).H 32579347:=by
 rcases (show r=0\/r=1\/r=2\/r=3\/r=4\/r=5\/r=6\/r=7\/r=8\/r=9\/r=10\/r=11\/r=12 by omega) with rfl | rfl | rfl | rfl | rfl | rfl | rfl | rfl | rfl | rfl | rfl | rfl | rfl
 ·exact (al5 x y hx hy).mono (by decide)
 ·exact (al4 x y hx hy).mono (by decide)
 ·exact (al3 x y hx hy).mono (by decide)
 ·exact (al2 x y hx hy).mono (by decide)
 ·exact (al1 x y hx hy).mono (by decide)
 ·exact (al0 x y hx hy).mono (by decide)
 ·exact (alz x y hx hy).mono (by decide)
 ·exact (aly x y hx hy).mono (by decide)
 ·exact (alx x y hx hy).mono (by decide)
 ·exact (alw x y hx hy).mono (by decide)
 ·exact (ajo x y hx hy).mono (by decide)
 ·exact (ajn x y hx hy).mono (by decide)
 exact (ajm x y hx hy).mono (by decide)
theorem apu (x y:Int) (r:Nat) (hx:0<=x/\x<1073741824) (hy:0<=y/\y<1073741824) (a:r<=12):(anc r (g8 x y r)).H 511:=by
 rcases (show r=0\/r=1\/r=2\/r=3\/r=4\/r=5\/r=6\/r=7\/r=8\/r=9\/r=10\/r=11\/r=12 by omega) with rfl | rfl | rfl | rfl | rfl | rfl | rfl | rfl | rfl | rfl | rfl | rfl | rfl
 ·exact anh x y hx hy
 ·exact ang x y hx hy
 ·exact anf x y hx hy
 ·exact ane x y hx hy
 ·exact anb x y hx hy
 ·exact ana x y hx hy
 ·exact am9 x y hx hy
 ·exact am8 x y hx hy
 ·exact am7 x y hx hy
 ·exact am6 x y hx hy
 ·exact aky x y hx hy
 ·exact akx x y hx hy
 exact akw x y hx hy
theorem ae7 (x y:Int) (r:Nat) (hx:0<=x/\x<1073741824) (hy:0<=y/\y<1073741824) (a:r<=12):okc r (g8 x y r):=by
 have c:=axr x y r hx hy a;have b:=apu x y r hx hy a;unfold okc;unfold Ei.In;unfold Ei.H at c b;omega

def aay:Mk P0 f141:={ x:=_ }
def vc:PC:=
 (.seq (.reg [p_a 2 (.box (.t 0)),p_a 3 (.box (.t 1)),p_a 4 (.new [(.r (.v (.int .i64 0))),(.r (.v (.int .u64 0)))])])
 (.seq (.reg [p_s 8 (.fa 1 (.t 2)),p_s 9 (.ld none (.t 8)),p_s 10 (.fa 1 (.t 3)),p_s 11 (.ld none (.t 10)),p_s 12 (.carry false (.t 9) (.t 11) (.c (.r (.v (.int .u64 0))))),
 p_m 7 12,p_s 13 (.ext (.t 7) 0),p_s 14 (.ext (.t 7) 1),p_m 5 13,p_m 6 14])
 (.seq (.reg [p_s 15 (.fa 0 (.t 2)),p_s 16 (.ld none (.t 15)),p_s 17 (.fa 0 (.t 3)),p_s 18 (.ld none (.t 17)),p_s 19 (.bin .add (.t 16) (.t 18)),p_m 20 6,p_s 21 (.conv .i64 (.t 20)),
 p_s 22 (.bin .add (.t 19) (.t 21)),p_m 23 5,p_s 24 (.build [(.r (.v (.int .i64 0))),(.r (.v (.int .u64 0)))] [(0,1,(.t 22)),(1,1,(.t 23))]),⟨none,none,0,.act (.st 2 (.t 4) (.t 24))⟩])
 .ret)))
theorem zx:Fun P0 140 2 [(4,false,some (206,(some 2)))] vc:=se func140 rfl (by decide) (by kernel_rfl) (by decide) rfl (by kernel_rfl) (by kernel_rfl) (by decide)
def tg:PC:=
 (.seq (.reg [p_a 2 (.box (.t 0)),p_a 3 (.box (.t 1)),p_a 4 (.new [(.r (.v (.int .i64 0))),(.r (.v (.int .u64 0)))])])
 (.seq (.reg [p_s 8 (.fa 1 (.t 2)),p_s 9 (.ld none (.t 8)),p_s 10 (.fa 1 (.t 3)),p_s 11 (.ld none (.t 10)),p_s 12 (.carry true (.t 9) (.t 11) (.c (.r (.v (.int .u64 0))))),
 p_m 7 12,p_s 13 (.ext (.t 7) 0),p_s 14 (.ext (.t 7) 1),p_m 5 13,p_m 6 14])
 (.seq (.reg [p_s 15 (.fa 0 (.t 2)),p_s 16 (.ld none (.t 15)),p_s 17 (.fa 0 (.t 3)),p_s 18 (.ld none (.t 17)),p_s 19 (.bin .sub (.t 16) (.t 18)),p_m 20 6,p_s 21 (.conv .i64 (.t 20)),
 p_s 22 (.bin .sub (.t 19) (.t 21)),p_m 23 5,p_s 24 (.build [(.r (.v (.int .i64 0))),(.r (.v (.int .u64 0)))] [(0,1,(.t 22)),(1,1,(.t 23))]),⟨none,none,0,.act (.st 2 (.t 4) (.t 24))⟩])
 .ret)))
theorem yy:Fun P0 142 2 [(4,false,some (206,(some 2)))] tg:=se func142 rfl (by decide) (by kernel_rfl) (by decide) rfl (by kernel_rfl) (by kernel_rfl) (by decide)
def tf:Mk P0 f143:={ x:=_ }
def ab9:Mk P0 f137:={ x:=_ }
def adj:Mk P0 f115:={ x:=_ }
def wid (x:Int):AV:=.r (.agg [.v (.int .i64 (IntKind.i64.wrap (x/18446744073709551616))),.v (.int .u64 (x%18446744073709551616))])
theorem aix {b:Int} (d:a=IntKind.i64.wrap (x/18446744073709551616)) (c:b=x%18446744073709551616):AV.r (.agg [.v (.int .i64 a),.v (.int .u64 b)])=wid x:=by rw [d,c]; rfl
theorem ak5 (a b:Int):a9 P0 140 [wid a,wid b] [] (wid (a+b)) []:=by
 refine zx rfl (by decide) ?_
 push_cast [vc,wid,zaa]
 refine ⟨by omega,aix ?_ ?_⟩
 ·simp only [IntKind.wrap_i64]; omega
 omega
theorem aqz (a b:Int):a9 P0 142 [wid a,wid b] [] (wid (a-b)) []:=by
 refine yy rfl (by decide) ?_
 push_cast [tg,wid,zaa]
 refine ⟨by omega,aix ?_ ?_⟩
 ·simp only [IntKind.wrap_i64]; omega
 omega
theorem aiq (a:Int) (h:-170141183460469231731687303715884105728<=a/\a<170141183460469231731687303715884105728):a9 P0 143 [wid a] [] (sm a) []:=by
 refine tf.t func143 ?_
 push_cast [tf,wid,zaa]
 rw [IntKind.wrap_i64,IntKind.wrap_i64];have g:b8 a->(a%18446744073709551616+9223372036854775808)%18446744073709551616-9223372036854775808=a:=by unfold b8; omega
 have j:(a/18446744073709551616+9223372036854775808)%18446744073709551616-9223372036854775808=a/18446744073709551616:=by omega
 rw [j];have i:a/18446744073709551616=0->(a%18446744073709551616+9223372036854775808)%18446744073709551616-9223372036854775808>=0->b8 a:=by unfold b8; omega
 have f:a/18446744073709551616=-1->(a%18446744073709551616+9223372036854775808)%18446744073709551616-9223372036854775808<0->b8 a:=by unfold b8; omega
 have e:b8 a->(a/18446744073709551616=0/\(a%18446744073709551616+9223372036854775808)%18446744073709551616-9223372036854775808>=0)\/(a/18446744073709551616=-1/\(a%18446744073709551616+9223372036854775808)%18446744073709551616-9223372036854775808<0):=by unfold b8; omega
 generalize a/18446744073709551616=q at *;generalize (a%18446744073709551616+9223372036854775808)%18446744073709551616-9223372036854775808=n at *;refine ⟨by simp +contextual,by simp +contextual; omega,c7 (λ hc=>?_) (λ hc=>?_)⟩
 ·push_cast
  have hy:b8 a:=by
   by_cases c:n<0
   ·by_cases c2:q=-1
    ·exact f c2 c
    simp [c,c2] at hc; omega
   by_cases c2:q=0
   ·exact i c2 (by omega)
   simp [c,c2] at hc
  exact lm (g hy) hy
 push_cast
 refine aa9 λ hy=>?_;rcases e hy with ⟨d,b⟩ | ⟨d,b⟩
 ·simp [d,b] at hc
 simp [d,b] at hc
theorem ad0 (b:b8 a):IntKind.u64.wrap a=if a<0 then a+18446744073709551616 else a:=by
 unfold b8 at b;rw [IntKind.wrap_u64];split<;>omega
theorem aa5 (a b:Int) (e:b8 a) (c:b8 b):a9 P0 141 [int .i64 a,int .i64 b] [] (wid (a*b)) []:=by
 refine aay.t func141 ?_
 push_cast [aay,zaa]
 have j:=e;have i:=c;unfold b8 at j i
 have f:∀x:Int,b8 x->((IntKind.u64.wrap x).toNat:Int)=if x<0 then x+18446744073709551616 else x:=λ x hx=>by
  rw [ad0 hx];unfold b8 at hx;split<;>omega
 have d:∀x:Int,b8 x->(IntKind.u64.wrap x).toNat<18446744073709551616:=λ x hx=>by
  rw [ad0 hx];unfold b8 at hx;split<;>omega
 refine b9 (as':=[int .u64 (IntKind.u64.wrap a).toNat,int .u64 (IntKind.u64.wrap b).toNat]) (by rw [f a e,f b c,ad0 e,ad0 c]) ?_;refine a6 (ahi _ _ (d a e) (d b c)) rfl trivial ?_
 push_cast
 have k:((IntKind.u64.wrap a).toNat:Int)*((IntKind.u64.wrap b).toNat:Int)=a*b+(if a<0 then b*18446744073709551616 else 0)+(if b<0 then a*18446744073709551616 else 0)+(if a<0 then if b<0 then 340282366920938463463374607431768211456 else 0 else 0):=by
  rw [f a e,f b c];split<;>split<;>(try simp only [Int.add_mul,Int.mul_add])<;>omega
 rw [k];generalize a*b=m;refine c7 (λ h=>?_) (λ h=>?_)<;>push_cast<;>refine c7 (λ g=>?_) (λ g=>?_)<;>push_cast
 all_goals
  simp only [decide_eq_true_eq,decide_eq_false_iff_not] at h g;simp only [h,g,if_true,if_false];refine aix ?_ ?_
  ·simp only [IntKind.wrap_i64]; omega
  omega
theorem akh (a b:Int):a9 P0 137 [int .i64 a,bl true,int .i64 b,bl true] [] (.tup [Ei.v ⟨a,b⟩,bl true]) []:=by
 refine ab9.t func137 ?_
 push_cast [ab9,Ei.v,Ei.rv,zaa]
abbrev M63:Int:=9223372036854775807
theorem Ei.In.ok (h:z.In M63):b8 z.a/\b8 z.b:=by unfold Ei.In M63 at h; unfold b8; omega
theorem axj {x y:Ei} (hx:x.In 4611686018427387904) (hy:y.In 4611686018427387904):(-21267647932558653966460912964485513216<=x.a*y.a/\x.a*y.a<=21267647932558653966460912964485513216)/\(-21267647932558653966460912964485513216<=x.a*y.b/\x.a*y.b<=21267647932558653966460912964485513216)/\(-21267647932558653966460912964485513216<=x.b*y.a/\x.b*y.a<=21267647932558653966460912964485513216)/\(-21267647932558653966460912964485513216<=x.b*y.b/\x.b*y.b<=21267647932558653966460912964485513216):=
 ⟨uz hx.1 hy.1,uz hx.1 hy.2,uz hx.2 hy.1,uz hx.2 hy.2⟩
theorem ags (x y:Ei) (hx:x.In 4611686018427387904) (hy:y.In 4611686018427387904) (g:(x.mul y).In M63):a9 P0 115 [x.v,y.v] [] (.tup [(x.mul y).v,bl true]) []:=by
 refine adj.t func115 ?_;have f:=g.ok.1;have e:=g.ok.2;simp only [Ei.mul] at f e
 push_cast [adj,Ei.v,Ei.rv,zaa]
 have c:b8 x.a/\b8 x.b:=by unfold Ei.In at hx; unfold b8; omega
 have d:b8 y.a/\b8 y.b:=by unfold Ei.In at hy; unfold b8; omega
 refine a6 (aa5 x.b y.b c.2 d.2) rfl trivial ?_
 push_cast [wid]
 refine g7 (aa5 x.a y.a c.1 d.1) rfl trivial ?_
 push_cast [wid]
 refine v7 (as':=[wid (x.a*y.a),wid (x.b*y.b)]) rfl ?_;refine g7 (aqz _ _) rfl trivial ?_
 push_cast [wid]
 refine v7 (as':=[wid (x.a*y.a-x.b*y.b)]) rfl ?_;refine g7 (aiq _ ?_) rfl trivial ?_
 ·have:=axj hx hy;omega
 push_cast [sm,f,if_pos]
 refine And.intro (by kernel_rfl) ?_;refine g7 (aa5 x.a y.b c.1 d.2) rfl trivial ?_
 push_cast [wid]
 refine g7 (aa5 x.b y.a c.2 d.1) rfl trivial ?_
 push_cast [wid]
 refine And.intro (by kernel_rfl) ?_;refine v7 (as':=[wid (x.a*y.b),wid (x.b*y.a)]) rfl ?_;refine g7 (ak5 _ _) rfl trivial ?_
 push_cast [wid]
 refine And.intro (by kernel_rfl) ?_;refine v7 (as':=[wid (x.a*y.b+x.b*y.a),wid (x.b*y.b)]) rfl ?_;refine g7 (ak5 _ _) rfl trivial ?_
 push_cast [wid]
 refine v7 (as':=[wid (x.a*y.b+x.b*y.a+x.b*y.b)]) rfl ?_;refine g7 (aiq _ ?_) rfl trivial ?_
 ·have:=axj hx hy;omega
 push_cast [sm,e,if_pos]
 refine And.intro (by kernel_rfl) ?_;refine a6 (akh _ _) rfl trivial ?_
 push_cast [Ei.v,Ei.rv,Ei.mul]

def aaz:Mk P0 f148:={ x:=_ }
def adi:Mk P0 f146:={ x:=_ }
def acb:Mk P0 f113:={ x:=_ }
def aca:Mk P0 f129:={ x:=_ }
def acd:Mk P0 f112:={ x:=_ }
def ab7:Mk P0 f144:={ x:=_ }
def aa0:Mk P0 f116:={ x:=_ }
theorem aba (h:b8 x):sm x=.tup [int .i64 x,bl true]:=by simp [sm,h]
theorem ayd (x y:Ei) (hx:x.In M63) (hy:y.In M63) (c:(x.sub y).In M63):a9 P0 146 [x.v,y.v] [] (.tup [(x.sub y).v,bl true]) []:=by
 have d:a9 P0 148 [x.v,y.v,.fn (.func 151) []] [] (.tup [(x.sub y).v,bl true]) []:=by
  refine aaz.t func148 ?_
  push_cast [aaz,Ei.v,Ei.rv,zaa]
  refine ⟨by kernel_rfl,?_⟩;refine a6 (amu _ _ hx.ok.1 hy.ok.1) rfl trivial ?_;rw [aba (show b8 (x.a-y.a) from c.ok.1)]
  push_cast
  refine ⟨by kernel_rfl,?_⟩;refine a6 (amu _ _ hx.ok.2 hy.ok.2) rfl trivial ?_;rw [aba (show b8 (x.b-y.b) from c.ok.2)]
  push_cast
  refine a6 (akh _ _) rfl trivial ?_
  push_cast [Ei.v,Ei.rv,Ei.sub]
 refine adi.t func146 ?_
 push_cast [adi,Ei.v,Ei.rv,zaa]
 refine b9 (as':=[x.v,y.v,.fn (.func 151) []]) rfl ?_;refine a6 d rfl trivial ?_
 push_cast [Ei.v,Ei.rv,Ei.sub]
theorem ame (x:Ei) (hx:x.In 4611686018427387903):a9 P0 113 [x.v] [] (.tup [x.conj.v,bl true]) []:=by
 refine acb.t func113 ?_;have h:=hx;unfold Ei.In at h
 push_cast [acb,Ei.v,Ei.rv,zaa]
 refine a6 (a0j _ _ (by unfold b8; omega) (by unfold b8; omega)) rfl trivial ?_;rw [aba (by unfold b8; omega)]
 push_cast
 refine a6 (azt _ (by unfold b8; omega)) rfl trivial ?_;rw [aba (by unfold b8; omega)]
 push_cast
 refine a6 (akh _ _) rfl trivial ?_
 push_cast [Ei.v,Ei.rv,Ei.conj]
theorem as2:uni 0=⟨1,0⟩:=rfl
theorem as1:uni 1=⟨0,1⟩:=rfl
theorem as0:uni 2=⟨-1,1⟩:=rfl
theorem asz:uni 3=⟨-1,0⟩:=rfl
theorem asy:uni 4=⟨0,-1⟩:=rfl
theorem asx:uni 5=⟨1,-1⟩:=rfl
theorem avl (k:Int) (a:0<=k/\k<6):a9 P0 129 [int .i64 k] [] (uni k.toNat).v []:=by
 refine aca.t func129 ?_
 have b:(IntKind.i64.wrap (Int.tmod k 6+6)).tmod 6=k:=by
  rw [zcn a.1,a7 (by omega),zcn (by omega)]; omega
 simp only [aca,b,Ei.v,Ei.rv,push_cast,↓reduceIte,reduceCtorEq,zB,zE,zA,zS,zL,zD,zM];refine ⟨by decide,by decide,a,by omega,?_⟩;rcases (show k=0\/k=1\/k=2\/k=3\/k=4\/k=5 by omega) with rfl | rfl | rfl | rfl | rfl | rfl
 all_goals
  simp only [Int.reduceToNat,Nat.zero_mul,Nat.add_zero,zct,as2,as1,as0,asz,asy,asx,push_cast,↓reduceIte,reduceCtorEq,zB,zE,zA,zS,zL,zD,zM]
  first | done | trace_state
theorem aa8 (a m:Int) (f:b8 a) (e:0<=m/\m<=4611686018427387904):a9 P0 144 [int .i64 a,int .i64 m] [] (bl (decide (-m<=a/\a<=m))) []:=by
 refine ab7.t func144 ?_
 push_cast [ab7,zaa]
 rw [show IntKind.i64.wrap (0-m)=-m by rw [a7 (by omega)]; omega];refine pi ?_;by_cases c:-m<=a<;>by_cases b:a<=m<;>by_cases d:a=-9223372036854775808<;>simp [c,b,d]
 all_goals omega
theorem avn (k:Int) (l:0<=k/\k<=12):a9 P0 112 [int .i64 k] [] (.tup [(c9 k.toNat).v,bl true]) []:=by
 refine acd.t func112 ?_;have f:decide (k<0)=false:=by simp; omega
 have c2:decide (k>20)=false:=by simp; omega
 push_cast [acd,zaa,f,c2]
 refine d3 [(14,false),(15,false),(2,false),(3,false),(4,false),(5,false)] (λ vs pos c=>∃i:Int,0<=i/\i<=k/\vs=[int .i64 k,int .i64 i,.ptr 2000000 0 0,bl false,.ptr 2000001 0 0,bl true]/\pos=[]/\c=[.box [int .i64 0,int .i64 0],.box [int .i64 (c9 i.toNat).a,int .i64 (c9 i.toNat).b]])
  (λ vs _ _=>match vs with | [_,.r (.v (.int _ j)),_,_,_,_]=>(k-j).toNat | _=>0) rfl ?_ ?_
 ·push_cast
  exact ⟨0,by omega,by omega,rfl,rfl⟩
 rintro vs pos c ⟨i,g,m,rfl,rfl,rfl⟩
 push_cast
 refine c7 (λ h=>?_) (λ h=>?_)
 ·simp only [decide_eq_true_eq] at h
  push_cast
  have e:=jq i.toNat (by omega);have d:=jq (i.toNat+1) (by omega);refine b9 (as':=[(c9 i.toNat).v,cd.v]) rfl ?_;refine a6 (ags _ _ (e.mono (by decide)) (by unfold Ei.In; decide) (d.mono (by decide))) rfl trivial ?_
  push_cast [Ei.v,Ei.rv]
  rw [show IntKind.i64.wrap (i+1)=i+1 from a7 (by omega)];refine ⟨⟨i+1,by omega,by omega,rfl,?_⟩,by omega⟩;rw [show (i+1).toNat=i.toNat+1 by omega]
  rfl
 simp only [decide_eq_false_iff_not] at h;have:i=k:=by omega
 subst this
 push_cast [Ei.v,Ei.rv]

def pkN (d a b:Int) (i:Nat):Int×Ei:=(ut.take i).foldl (pk d a b) (0,⟨0,0⟩)
theorem ajf (d a b:Int) (i:Nat) (z:Ei) (h:ut[i]?=some z):pkN d a b (i+1)=pk d a b (pkN d a b i) z:=by
 unfold pkN;rw [List.take_add_one,h];simp
theorem auy {b:Int} (c:0<=a/\a<d) (e:0<=b/\b<d):(pkN d a b 3).2=cp d a b:=akz c e
theorem aph (d a b:Int):∀i,(0<=(pkN d a b i).2.a/\(pkN d a b i).2.a<=1)/\(0<=(pkN d a b i).2.b/\(pkN d a b i).2.b<=1)
 | 0=>by simp [pkN]
 | i+1=>by
   have c:=aph d a b i;rcases h:ut[i]? with _ | z
   ·have:pkN d a b (i+1)=pkN d a b i:=by unfold pkN; rw [List.take_add_one,h]; simp
    rw [this]; exact c
   rw [ajf d a b i z h];unfold pk;split
   ·have:z∈ut:=List.mem_of_getElem? h;simp [ut] at this;rcases this with rfl | rfl | rfl<;>simp
   exact c
theorem agu (h:-n<=a/\a<=n) (g:1<=d):-n<=a/d/\a/d<=n:=by
 have c:=zcu a d;have f:=zag a (show 0<d by omega);have e:=zah a (show d≠0 by omega);generalize a/d=q at *;generalize a%d=r at *;constructor
 ·rcases zcl q 0 with b | b
  ·have:d*(q+1)<=1*(q+1):=Int.mul_le_mul_of_nonpos_right (by omega) (by omega);rw [Int.mul_add] at this;omega
  omega
 rcases zcl q 0 with b | b
 ·omega
 have:1*q<=d*q:=Int.mul_le_mul_of_nonneg_right (by omega) b;omega
theorem aj8 (u:Ei) (d:Int) (F:u.In 1152921504606846976) (o:1<=d/\d<=1125899906842624):a9 P0 116 [u.v,int .i64 d] [] (.tup [(u.round d).v,bl true]) []:=by
 refine aa0.t func116 ?_;have c:=F;unfold Ei.In at c;have B:decide (d<1)=false:=by simp; omega
 have c2:decide (d>1125899906842624)=false:=by simp; omega
 have w:b8 u.a:=by unfold b8; omega
 have p:b8 u.b:=by unfold b8; omega
 have s:b8 d:=by unfold b8; omega
 push_cast [aa0,Ei.v,Ei.rv,zaa,B,c2]
 refine a6 (aa8 _ _ w (by decide)) rfl trivial ?_;rw [show decide (-1152921504606846976<=u.a/\u.a<=1152921504606846976)=true from decide_eq_true c.1]
 push_cast
 refine a6 (aa8 _ _ p (by decide)) rfl trivial ?_;rw [show decide (-1152921504606846976<=u.b/\u.b<=1152921504606846976)=true from decide_eq_true c.2]
 push_cast
 refine a6 (amb _ _ w s) rfl trivial ?_;have e:0<d:=by omega
 push_cast [e,if_true]
 refine a6 (amb _ _ p s) rfl trivial ?_
 push_cast [e,if_true]
 have A:0<=u.a%d/\u.a%d<d:=⟨zah _ (by omega),zag _ e⟩
 have H:0<=u.b%d/\u.b%d<d:=⟨zah _ (by omega),zag _ e⟩
 have J:-1152921504606846976<=u.a/d/\u.a/d<=1152921504606846976:=agu c.1 o.1;have G:-1152921504606846976<=u.b/d/\u.b/d<=1152921504606846976:=agu c.2 o.1;generalize D:u.a%d=a at *;generalize E:u.b%d=b at *;generalize n:u.a/d=I at *;generalize m:u.b/d=K at *;refine ⟨by simp,?_⟩
 refine d3 [(57,false),(58,false),(59,false),(1,false),(4,false),(5,false),(6,false),(7,false),(9,false),(10,false),(12,false),(13,false)] (λ vs pos k=>∃i:Nat,i<=3/\vs=[.own 2000000 0 0 3,int .i64 3,int .i64 i,int .i64 d,.ptr 2000001 0 0,bl false,int .i64 I,int .i64 a,int .i64 K,int .i64 b,int .i64 (pkN d a b i).1,.ptr 2000002 0 0]/\pos=[] /\
  k=[.row 2 (Ei.rv ⟨0,0⟩) true true (ut.map Ei.rv),.box [int .i64 0,int .i64 0],.box [int .i64 (pkN d a b i).2.a,int .i64 (pkN d a b i).2.b]])
  (λ vs _ _=>match vs with | _::_ :: .r (.v (.int _ j))::_=>(3-j).toNat | _=>0) rfl ?_ ?_
 ·push_cast
  exact ⟨0,by omega,rfl,rfl⟩
 rintro vs pos k ⟨i,N,rfl,rfl,rfl⟩
 push_cast
 refine c7 (λ h=>?_) (λ h=>?_)
 ·have x:i=0\/i=1\/i=2:=by simp at h; omega
  obtain ⟨z,q,g⟩:∃z,ut[i]?=some z/\((z=⟨0,1⟩\/z=⟨1,0⟩\/z=⟨1,1⟩)):=by
   rcases x with rfl | rfl | rfl
   ·exact ⟨_,rfl,by simp⟩
   ·exact ⟨_,rfl,by simp⟩
   exact ⟨_,rfl,by simp⟩
  have L:(List.map Ei.rv ut).getD i (Ei.rv ⟨0,0⟩)=.agg [.v (.int .i64 z.a),.v (.int .i64 z.b)]:=by
   rw [List.getD_eq_getElem?_getD,List.getElem?_map,q]; rfl
  have y:(IntKind.i64.wrap (IntKind.i64.wrap (IntKind.i64.wrap (z.a*z.a)+IntKind.i64.wrap (z.a*z.b))+IntKind.i64.wrap (z.b*z.b)))=z.a*z.a+z.a*z.b+z.b*z.b:=by
   rcases g with rfl | rfl | rfl<;>decide
  have C:IntKind.i64.wrap (IntKind.i64.wrap (IntKind.i64.wrap (d*(z.a*z.a+z.a*z.b+z.b*z.b))-IntKind.i64.wrap (z.a*IntKind.i64.wrap (IntKind.i64.wrap (2*a)+b)))-IntKind.i64.wrap (z.b*IntKind.i64.wrap (a+IntKind.i64.wrap (2*b))))=fr d a b z:=by
   rw [show IntKind.i64.wrap (2*a)=2*a from a7 (by omega),show IntKind.i64.wrap (2*b)=2*b from a7 (by omega),show IntKind.i64.wrap (2*a+b)=2*a+b from a7 (by omega),show IntKind.i64.wrap (a+2*b)=a+2*b from a7 (by omega)];rcases g with rfl | rfl | rfl<;>simp only [fr,Int.zero_mul,Int.mul_zero,Int.one_mul,Int.mul_one,Int.add_zero,Int.zero_add,IntKind.wrap_i64]<;>omega
  have l:=ajf d a b i z q
  push_cast [zci,zct,L,y,C]
  refine ⟨by omega,?_⟩;refine c7 (λ f=>?_) (λ f=>?_)
  ·simp only [decide_eq_true_eq] at f
   push_cast
   refine ⟨by kernel_rfl,?_⟩;rw [show IntKind.i64.wrap (i+1)=i+1 from a7 (by omega)];refine ⟨⟨i+1,by omega,?_,?_⟩,by omega⟩
   ·rw [l,pk,if_pos f]<;>rfl
   rw [l,pk,if_pos f]<;>rfl
  simp only [decide_eq_false_iff_not] at f
  push_cast
  rw [show IntKind.i64.wrap (i+1)=i+1 from a7 (by omega)];refine ⟨⟨i+1,by omega,?_,?_⟩,by omega⟩
  ·rw [l,pk,if_neg f]<;>rfl
  rw [l,pk,if_neg f]<;>rfl
 have:i=3:=by simp at h; omega
 subst this
 push_cast
 have M:=aph d a b 3;rw [a7 (by omega),a7 (by omega),auy A H,<- n,<- m,<- D,<- E]
 rfl

def aal:Mk P0 f111:={ x:=_ }
def aef:Mk P0 f77:={ x:=_ }
def aam:Mk P0 f110:={ x:=_ }
def ab6:Mk P0 f78:={ x:=_ }
theorem p2 (n:Nat) (h:n<=36):1<=(2:Int)^n/\(2:Int)^n<=68719476736:=by
 have b:2^n<=2^36:=zai (by decide) h;have a:1<=2^n:=Nat.one_le_two_pow;have c:((2^n:Nat):Int)=(2:Int)^n:=by simp
 omega
theorem p7 (n:Nat) (h:n<=12):1<=(7:Int)^n/\(7:Int)^n<=13841287201:=by
 have b:7^n<=7^12:=zai (by decide) h;have a:1<=7^n:=Nat.one_le_pow _ _ (by decide);have c:((7^n:Nat):Int)=(7:Int)^n:=by simp
 omega
theorem avb (r:Int):a9 P0 111 [int .i64 r] [] (bl (decide (0<=r/\r<=12))) []:=by
 refine aal.t func111 ?_
 push_cast [aal,zaa]
 refine pi ?_;simp
theorem ac2 {x y:Ei} (hx:x.In n) (hy:y.In m):(x.mul y).In (3*(n*m)):=by
 have b:=uz hx.1 hy.1;have a:=uz hx.1 hy.2;have c:=uz hx.2 hy.1;have d:=uz hx.2 hy.2;unfold Ei.In Ei.mul;dsimp only;generalize n*m=q at *;omega
theorem ahs {x:Ei} (hx:x.In n):x.conj.In (2*n):=by
 unfold Ei.In Ei.conj at *;dsimp only;omega
def inW (x y:Int):Prop:=(0<=x/\x<1073741824)/\(0<=y/\y<1073741824)
instance (x y:Int):Decidable (inW x y):=inferInstanceAs (Decidable (_/\_))
theorem anz (h:inW x y):(ax x y).In 60000000000:=by
 unfold inW at h;unfold ax Ei.In;dsimp only;omega
variable {k:Nat}
theorem aqq (h:inW x y) (a:k<=12):((ax x y).mul (c9 k).conj).In 43200000000000000:=
 (ac2 (anz h) (ahs (jq k a))).mono (by decide)
theorem as8 (x y:Int):a9 P0 77 [int .i64 x,int .i64 y] [] (bl (decide (inW x y))) []:=by
 refine aef.t func77 ?_
 push_cast [aef,zaa]
 repeat refine And.intro (by simp +contextual) ?_
 refine pi ?_;unfold inW;by_cases b:0<=x<;>by_cases a:x<1073741824<;>by_cases c:0<=y<;>by_cases d:y<1073741824<;>simp [b,a,c,d]
theorem av4 (x y:Int) (h:inW x y):a9 P0 110 [int .i64 x,int .i64 y] [] (.tup [(ax x y).v,bl true]) []:=by
 refine aam.t func110 ?_
 push_cast [aam,zaa]
 refine a6 (as8 x y) rfl trivial ?_;rw [decide_eq_true h]
 push_cast
 unfold inW at h;rw [show IntKind.i64.wrap (45*x)=45*x from a7 (by omega),show IntKind.i64.wrap (26*y)=26*y from a7 (by omega),show IntKind.i64.wrap (52*y)=52*y from a7 (by omega),show IntKind.i64.wrap (45*x-26*y)=45*x-26*y from a7 (by omega)];simp only [ax,Ei.v,Ei.rv]
theorem axq (x y r:Int) (h:inW x y) (e:0<=r/\r<=12):a9 P0 78 [int .i64 x,int .i64 y,int .i64 r] [] (.tup [(g8 x y r.toNat).v,bl true]) []:=by
 refine ab6.t func78 ?_
 push_cast [ab6,zaa]
 refine a6 (av4 x y h) rfl trivial ?_
 push_cast [Ei.v,Ei.rv]
 refine a6 (avb r) rfl trivial ?_;rw [decide_eq_true e]
 push_cast
 have f:(12-r).toNat=12-r.toNat:=by omega
 have a:(12-r).toNat<=12:=by omega
 rw [show IntKind.i64.wrap (12-r)=12-r from a7 (by omega)];refine a6 (avn (12-r) (by omega)) rfl trivial ?_;have b:=jq (12-r).toNat a
 push_cast [Ei.v,Ei.rv]
 refine b9 (as':=[(c9 (12-r).toNat).v]) rfl ?_;refine a6 (ame _ (b.mono (by decide))) rfl trivial ?_
 push_cast [Ei.v,Ei.rv]
 have g:=p7 (12-r).toNat a;rw [show IntKind.i64.wrap (12-r)=12-r from a7 (by omega)];have d:=azm 7 (12-r) (by decide) (by unfold b8; omega);rw [if_neg (show ¬12-r<0 by omega),aba (by unfold b8; omega)] at d;refine a6 d rfl trivial ?_
 push_cast
 have c:=aqq h a;refine b9 (as':=[(ax x y).v,(c9 (12-r).toNat).conj.v]) rfl ?_;refine a6 (ags _ _ ((anz h).mono (by decide)) ((ahs b).mono (by decide)) (c.mono (by decide))) rfl trivial ?_
 push_cast [Ei.v,Ei.rv]
 rw [show IntKind.i64.wrap (2340*7^(12-r).toNat)=2340*7^(12-r).toNat from a7 (by omega)];refine b9 (as':=[((ax x y).mul (c9 (12-r).toNat).conj).v,int .i64 (2340*7^(12-r).toNat)]) rfl ?_;refine a6 (aj8 _ _ (c.mono (by decide)) (by omega)) rfl trivial ?_
 push_cast [Ei.v,Ei.rv,g8,f]

def vv (i:Nat):Ei:=match i with | 0=>⟨1,1⟩ | 1=>⟨-1,2⟩ | 2=>⟨-2,1⟩ | 3=>⟨-1,-1⟩ | 4=>⟨1,-2⟩ | _=>⟨2,-1⟩
def hc (z:Ei) (r i:Nat):Ei:=(c9 (12-r)).mul ⟨3*z.a+(vv i).a,3*z.b+(vv i).b⟩
def hx (z:Ei) (r i:Nat):Int:=52*(hc z r i).a+26*(hc z r i).b
def hy (z:Ei) (r i:Nat):Int:=45*(hc z r i).b
def cx (z:Ei) (r:Nat):Int:=52*((c9 (12-r)).mul z).a+26*((c9 (12-r)).mul z).b
def cy (z:Ei) (r:Nat):Int:=45*((c9 (12-r)).mul z).b
def kx (r i:Nat):Int:=52*((c9 (12-r)).mul (vv i)).a+26*((c9 (12-r)).mul (vv i)).b
def ky (r i:Nat):Int:=45*((c9 (12-r)).mul (vv i)).b
theorem nu (z:Ei) (r i:Nat):hx z r i=3*cx z r+kx r i:=by
 simp only [hx,cx,kx,hc,Ei.mul,Int.mul_add,Int.mul_left_comm _ (3:Int)];omega
theorem nt (z:Ei) (r i:Nat):hy z r i=3*cy z r+ky r i:=by
 simp only [hy,cy,ky,hc,Ei.mul,Int.mul_add,Int.mul_left_comm _ (3:Int)];omega
def crs (z:Ei) (r i j:Nat) (x y:Int):Int:=(kx r j-kx r i)*(y-hy z r i)-(ky r j-ky r i)*(x-hx z r i)
def su (x y:Int) (z:Ei) (r:Nat):Prop:=
 ((-50000000<=cx z r-x/\cx z r-x<=50000000)/\(-50000000<=cy z r-y/\cy z r-y<=50000000)) /\
 (∀i,i<6->0<=crs z r i ((i+1)%6) (3*x) (3*y)) /\
 (∃i,i<6/\hx z r i<=3*x)/\(∃i,i<6/\3*x<=hx z r i)/\(∃i,i<6/\hy z r i<=3*y)/\(∃i,i<6/\3*y<=hy z r i)
variable {i:Nat}
theorem lt6 (h:i<6):i=0\/i=1\/i=2\/i=3\/i=4\/i=5:=by omega
theorem az6 (x y:Int):su x y (g8 x y 0) 0:=by
 have h:=j8 ((ax x y).mul (c9 (12-0)).conj) (d:=2340*7^(12-0)) (by decide);have e:(c9 (12-0)).conj=⟨-128231,102960⟩:=by decide
 have z:(2340*7^(12-0):Int)=32388612050340:=by decide
 have v:c9 (12-0)=⟨-25271,-102960⟩:=by decide
 unfold g8;generalize Ei.round _ _=q at *;rw [e,z] at h;have ex:cx q 0=52*(-25271*q.a - -102960*q.b)+26*(-25271*q.b + -102960*q.a + -102960*q.b):=by simp only [cx,v,Ei.mul]
 have A:cy q 0=45*(-25271*q.b + -102960*q.a + -102960*q.b):=by simp only [cy,v,Ei.mul]
 have p:kx 0 0=-1971138:=by decide
 have j:ky 0 0=-10403595:=by decide
 have r:kx 0 1=8030880:=by decide
 have s:ky 0 1=-6907590:=by decide
 have c:kx 0 2=10002018:=by decide
 have k:ky 0 2=3496005:=by decide
 have l:kx 0 3=1971138:=by decide
 have t:ky 0 3=10403595:=by decide
 have f:kx 0 4=-8030880:=by decide
 have n:ky 0 4=6907590:=by decide
 have m:kx 0 5=-10002018:=by decide
 have o:ky 0 5=-3496005:=by decide
 unfold d9 at h;simp only [Ei.mul,ax] at h;have g:∀i,hx q 0 i=3*cx q 0+kx 0 i:=λ i=>nu q 0 i;have u:∀i,hy q 0 i=3*cy q 0+ky 0 i:=λ i=>nt q 0 i;have C:=h.1;have B:=h.2.1;have D:=h.2.2;refine ⟨by omega,λ i w=>?_,⟨5,by decide,?_⟩,⟨2,by decide,?_⟩,⟨0,by decide,?_⟩,⟨3,by decide,?_⟩⟩
 ·rcases lt6 w with rfl | rfl | rfl | rfl | rfl | rfl<;>simp only [crs,g,u,p,r,c,l,f,m,j,s,k,t,n,o]<;>omega
 ·simp only [g,p,r,c,l,f,m]; omega
 ·simp only [g,p,r,c,l,f,m]; omega
 ·simp only [u,j,s,k,t,n,o]; omega
 simp only [u,j,s,k,t,n,o]; omega
theorem az5 (x y:Int):su x y (g8 x y 1) 1:=by
 have h:=j8 ((ax x y).mul (c9 (12-1)).conj) (d:=2340*7^(12-1)) (by decide);have e:(c9 (12-1)).conj=⟨-51346,25807⟩:=by decide
 have z:(2340*7^(12-1):Int)=4626944578620:=by decide
 have v:c9 (12-1)=⟨-25539,-25807⟩:=by decide
 unfold g8;generalize Ei.round _ _=q at *;rw [e,z] at h;have ex:cx q 1=52*(-25539*q.a - -25807*q.b)+26*(-25539*q.b + -25807*q.a + -25807*q.b):=by simp only [cx,v,Ei.mul]
 have A:cy q 1=45*(-25539*q.b + -25807*q.a + -25807*q.b):=by simp only [cy,v,Ei.mul]
 have p:kx 1 0=-1992042:=by decide
 have j:ky 1 0=-3471885:=by decide
 have r:kx 1 1=2012946:=by decide
 have s:ky 1 1=-3459825:=by decide
 have c:kx 1 2=4004988:=by decide
 have k:ky 1 2=12060:=by decide
 have l:kx 1 3=1992042:=by decide
 have t:ky 1 3=3471885:=by decide
 have f:kx 1 4=-2012946:=by decide
 have n:ky 1 4=3459825:=by decide
 have m:kx 1 5=-4004988:=by decide
 have o:ky 1 5=-12060:=by decide
 unfold d9 at h;simp only [Ei.mul,ax] at h;have g:∀i,hx q 1 i=3*cx q 1+kx 1 i:=λ i=>nu q 1 i;have u:∀i,hy q 1 i=3*cy q 1+ky 1 i:=λ i=>nt q 1 i;have C:=h.1;have B:=h.2.1;have D:=h.2.2;refine ⟨by omega,λ i w=>?_,⟨5,by decide,?_⟩,⟨2,by decide,?_⟩,⟨0,by decide,?_⟩,⟨3,by decide,?_⟩⟩
 ·rcases lt6 w with rfl | rfl | rfl | rfl | rfl | rfl<;>simp only [crs,g,u,p,r,c,l,f,m,j,s,k,t,n,o]<;>omega
 ·simp only [g,p,r,c,l,f,m]; omega
 ·simp only [g,p,r,c,l,f,m]; omega
 ·simp only [u,j,s,k,t,n,o]; omega
 simp only [u,j,s,k,t,n,o]; omega
theorem az4 (x y:Int):su x y (g8 x y 2) 2:=by
 have h:=j8 ((ax x y).mul (c9 (12-2)).conj) (d:=2340*7^(12-2)) (by decide);have e:(c9 (12-2)).conj=⟨-18357,3725⟩:=by decide
 have z:(2340*7^(12-2):Int)=660992082660:=by decide
 have v:c9 (12-2)=⟨-14632,-3725⟩:=by decide
 unfold g8;generalize Ei.round _ _=q at *;rw [e,z] at h;have ex:cx q 2=52*(-14632*q.a - -3725*q.b)+26*(-14632*q.b + -3725*q.a + -3725*q.b):=by simp only [cx,v,Ei.mul]
 have A:cy q 2=45*(-14632*q.b + -3725*q.a + -3725*q.b):=by simp only [cy,v,Ei.mul]
 have p:kx 2 0=-1141296:=by decide
 have j:ky 2 0=-993690:=by decide
 have r:kx 2 1=290550:=by decide
 have s:ky 2 1=-1484505:=by decide
 have c:kx 2 2=1431846:=by decide
 have k:ky 2 2=-490815:=by decide
 have l:kx 2 3=1141296:=by decide
 have t:ky 2 3=993690:=by decide
 have f:kx 2 4=-290550:=by decide
 have n:ky 2 4=1484505:=by decide
 have m:kx 2 5=-1431846:=by decide
 have o:ky 2 5=490815:=by decide
 unfold d9 at h;simp only [Ei.mul,ax] at h;have g:∀i,hx q 2 i=3*cx q 2+kx 2 i:=λ i=>nu q 2 i;have u:∀i,hy q 2 i=3*cy q 2+ky 2 i:=λ i=>nt q 2 i;have C:=h.1;have B:=h.2.1;have D:=h.2.2;refine ⟨by omega,λ i w=>?_,⟨5,by decide,?_⟩,⟨2,by decide,?_⟩,⟨1,by decide,?_⟩,⟨4,by decide,?_⟩⟩
 ·rcases lt6 w with rfl | rfl | rfl | rfl | rfl | rfl<;>simp only [crs,g,u,p,r,c,l,f,m,j,s,k,t,n,o]<;>omega
 ·simp only [g,p,r,c,l,f,m]; omega
 ·simp only [g,p,r,c,l,f,m]; omega
 ·simp only [u,j,s,k,t,n,o]; omega
 simp only [u,j,s,k,t,n,o]; omega
theorem az3 (x y:Int):su x y (g8 x y 3) 3:=by
 have h:=j8 ((ax x y).mul (c9 (12-3)).conj) (d:=2340*7^(12-3)) (by decide);have e:(c9 (12-3)).conj=⟨-5777,-1026⟩:=by decide
 have z:(2340*7^(12-3):Int)=94427440380:=by decide
 have v:c9 (12-3)=⟨-6803,1026⟩:=by decide
 unfold g8;generalize Ei.round _ _=q at *;rw [e,z] at h;have ex:cx q 3=52*(-6803*q.a-1026*q.b)+26*(-6803*q.b+1026*q.a+1026*q.b):=by simp only [cx,v,Ei.mul]
 have A:cy q 3=45*(-6803*q.b+1026*q.a+1026*q.b):=by simp only [cy,v,Ei.mul]
 have p:kx 3 0=-530634:=by decide
 have j:ky 3 0=-213795:=by decide
 have r:kx 3 1=-80028:=by decide
 have s:ky 3 1=-566100:=by decide
 have c:kx 3 2=450606:=by decide
 have k:ky 3 2=-352305:=by decide
 have l:kx 3 3=530634:=by decide
 have t:ky 3 3=213795:=by decide
 have f:kx 3 4=80028:=by decide
 have n:ky 3 4=566100:=by decide
 have m:kx 3 5=-450606:=by decide
 have o:ky 3 5=352305:=by decide
 unfold d9 at h;simp only [Ei.mul,ax] at h;have g:∀i,hx q 3 i=3*cx q 3+kx 3 i:=λ i=>nu q 3 i;have u:∀i,hy q 3 i=3*cy q 3+ky 3 i:=λ i=>nt q 3 i;have C:=h.1;have B:=h.2.1;have D:=h.2.2;refine ⟨by omega,λ i w=>?_,⟨0,by decide,?_⟩,⟨3,by decide,?_⟩,⟨1,by decide,?_⟩,⟨4,by decide,?_⟩⟩
 ·rcases lt6 w with rfl | rfl | rfl | rfl | rfl | rfl<;>simp only [crs,g,u,p,r,c,l,f,m,j,s,k,t,n,o]<;>omega
 ·simp only [g,p,r,c,l,f,m]; omega
 ·simp only [g,p,r,c,l,f,m]; omega
 ·simp only [u,j,s,k,t,n,o]; omega
 simp only [u,j,s,k,t,n,o]; omega
theorem az2 (x y:Int):su x y (g8 x y 4) 4:=by
 have h:=j8 ((ax x y).mul (c9 (12-4)).conj) (d:=2340*7^(12-4)) (by decide);have e:(c9 (12-4)).conj=⟨-1504,-1265⟩:=by decide
 have z:(2340*7^(12-4):Int)=13489634340:=by decide
 have v:c9 (12-4)=⟨-2769,1265⟩:=by decide
 unfold g8;generalize Ei.round _ _=q at *;rw [e,z] at h;have ex:cx q 4=52*(-2769*q.a-1265*q.b)+26*(-2769*q.b+1265*q.a+1265*q.b):=by simp only [cx,v,Ei.mul]
 have A:cy q 4=45*(-2769*q.b+1265*q.a+1265*q.b):=by simp only [cy,v,Ei.mul]
 have p:kx 4 0=-215982:=by decide
 have j:ky 4 0=-10755:=by decide
 have r:kx 4 1=-98670:=by decide
 have s:ky 4 1=-192285:=by decide
 have c:kx 4 2=117312:=by decide
 have k:ky 4 2=-181530:=by decide
 have l:kx 4 3=215982:=by decide
 have t:ky 4 3=10755:=by decide
 have f:kx 4 4=98670:=by decide
 have n:ky 4 4=192285:=by decide
 have m:kx 4 5=-117312:=by decide
 have o:ky 4 5=181530:=by decide
 unfold d9 at h;simp only [Ei.mul,ax] at h;have g:∀i,hx q 4 i=3*cx q 4+kx 4 i:=λ i=>nu q 4 i;have u:∀i,hy q 4 i=3*cy q 4+ky 4 i:=λ i=>nt q 4 i;have C:=h.1;have B:=h.2.1;have D:=h.2.2;refine ⟨by omega,λ i w=>?_,⟨0,by decide,?_⟩,⟨3,by decide,?_⟩,⟨1,by decide,?_⟩,⟨4,by decide,?_⟩⟩
 ·rcases lt6 w with rfl | rfl | rfl | rfl | rfl | rfl<;>simp only [crs,g,u,p,r,c,l,f,m,j,s,k,t,n,o]<;>omega
 ·simp only [g,p,r,c,l,f,m]; omega
 ·simp only [g,p,r,c,l,f,m]; omega
 ·simp only [u,j,s,k,t,n,o]; omega
 simp only [u,j,s,k,t,n,o]; omega
theorem az1 (x y:Int):su x y (g8 x y 5) 5:=by
 have h:=j8 ((ax x y).mul (c9 (12-5)).conj) (d:=2340*7^(12-5)) (by decide);have e:(c9 (12-5)).conj=⟨-249,-757⟩:=by decide
 have z:(2340*7^(12-5):Int)=1927090620:=by decide
 have v:c9 (12-5)=⟨-1006,757⟩:=by decide
 unfold g8;generalize Ei.round _ _=q at *;rw [e,z] at h;have ex:cx q 5=52*(-1006*q.a-757*q.b)+26*(-1006*q.b+757*q.a+757*q.b):=by simp only [cx,v,Ei.mul]
 have A:cy q 5=45*(-1006*q.b+757*q.a+757*q.b):=by simp only [cy,v,Ei.mul]
 have p:kx 5 0=-78468:=by decide
 have j:ky 5 0=22860:=by decide
 have r:kx 5 1=-59046:=by decide
 have s:ky 5 1=-56475:=by decide
 have c:kx 5 2=19422:=by decide
 have k:ky 5 2=-79335:=by decide
 have l:kx 5 3=78468:=by decide
 have t:ky 5 3=-22860:=by decide
 have f:kx 5 4=59046:=by decide
 have n:ky 5 4=56475:=by decide
 have m:kx 5 5=-19422:=by decide
 have o:ky 5 5=79335:=by decide
 unfold d9 at h;simp only [Ei.mul,ax] at h;have g:∀i,hx q 5 i=3*cx q 5+kx 5 i:=λ i=>nu q 5 i;have u:∀i,hy q 5 i=3*cy q 5+ky 5 i:=λ i=>nt q 5 i;have C:=h.1;have B:=h.2.1;have D:=h.2.2;refine ⟨by omega,λ i w=>?_,⟨0,by decide,?_⟩,⟨3,by decide,?_⟩,⟨2,by decide,?_⟩,⟨5,by decide,?_⟩⟩
 ·rcases lt6 w with rfl | rfl | rfl | rfl | rfl | rfl<;>simp only [crs,g,u,p,r,c,l,f,m,j,s,k,t,n,o]<;>omega
 ·simp only [g,p,r,c,l,f,m]; omega
 ·simp only [g,p,r,c,l,f,m]; omega
 ·simp only [u,j,s,k,t,n,o]; omega
 simp only [u,j,s,k,t,n,o]; omega
theorem az0 (x y:Int):su x y (g8 x y 6) 6:=by
 have h:=j8 ((ax x y).mul (c9 (12-6)).conj) (d:=2340*7^(12-6)) (by decide);have e:(c9 (12-6)).conj=⟨37,-360⟩:=by decide
 have z:(2340*7^(12-6):Int)=275298660:=by decide
 have v:c9 (12-6)=⟨-323,360⟩:=by decide
 unfold g8;generalize Ei.round _ _=q at *;rw [e,z] at h;have ex:cx q 6=52*(-323*q.a-360*q.b)+26*(-323*q.b+360*q.a+360*q.b):=by simp only [cx,v,Ei.mul]
 have A:cy q 6=45*(-323*q.b+360*q.a+360*q.b):=by simp only [cy,v,Ei.mul]
 have p:kx 6 0=-25194:=by decide
 have j:ky 6 0=17865:=by decide
 have r:kx 6 1=-28080:=by decide
 have s:ky 6 1=-12870:=by decide
 have c:kx 6 2=-2886:=by decide
 have k:ky 6 2=-30735:=by decide
 have l:kx 6 3=25194:=by decide
 have t:ky 6 3=-17865:=by decide
 have f:kx 6 4=28080:=by decide
 have n:ky 6 4=12870:=by decide
 have m:kx 6 5=2886:=by decide
 have o:ky 6 5=30735:=by decide
 unfold d9 at h;simp only [Ei.mul,ax] at h;have g:∀i,hx q 6 i=3*cx q 6+kx 6 i:=λ i=>nu q 6 i;have u:∀i,hy q 6 i=3*cy q 6+ky 6 i:=λ i=>nt q 6 i;have C:=h.1;have B:=h.2.1;have D:=h.2.2;refine ⟨by omega,λ i w=>?_,⟨1,by decide,?_⟩,⟨4,by decide,?_⟩,⟨2,by decide,?_⟩,⟨5,by decide,?_⟩⟩
 ·rcases lt6 w with rfl | rfl | rfl | rfl | rfl | rfl<;>simp only [crs,g,u,p,r,c,l,f,m,j,s,k,t,n,o]<;>omega
 ·simp only [g,p,r,c,l,f,m]; omega
 ·simp only [g,p,r,c,l,f,m]; omega
 ·simp only [u,j,s,k,t,n,o]; omega
 simp only [u,j,s,k,t,n,o]; omega
theorem azz (x y:Int):su x y (g8 x y 7) 7:=by
 have h:=j8 ((ax x y).mul (c9 (12-7)).conj) (d:=2340*7^(12-7)) (by decide);have e:(c9 (12-7)).conj=⟨62,-149⟩:=by decide
 have z:(2340*7^(12-7):Int)=39328380:=by decide
 have v:c9 (12-7)=⟨-87,149⟩:=by decide
 unfold g8;generalize Ei.round _ _=q at *;rw [e,z] at h;have ex:cx q 7=52*(-87*q.a-149*q.b)+26*(-87*q.b+149*q.a+149*q.b):=by simp only [cx,v,Ei.mul]
 have A:cy q 7=45*(-87*q.b+149*q.a+149*q.b):=by simp only [cy,v,Ei.mul]
 have p:kx 7 0=-6786:=by decide
 have j:ky 7 0=9495:=by decide
 have r:kx 7 1=-11622:=by decide
 have s:ky 7 1=-1125:=by decide
 have c:kx 7 2=-4836:=by decide
 have k:ky 7 2=-10620:=by decide
 have l:kx 7 3=6786:=by decide
 have t:ky 7 3=-9495:=by decide
 have f:kx 7 4=11622:=by decide
 have n:ky 7 4=1125:=by decide
 have m:kx 7 5=4836:=by decide
 have o:ky 7 5=10620:=by decide
 unfold d9 at h;simp only [Ei.mul,ax] at h;have g:∀i,hx q 7 i=3*cx q 7+kx 7 i:=λ i=>nu q 7 i;have u:∀i,hy q 7 i=3*cy q 7+ky 7 i:=λ i=>nt q 7 i;have C:=h.1;have B:=h.2.1;have D:=h.2.2;refine ⟨by omega,λ i w=>?_,⟨1,by decide,?_⟩,⟨4,by decide,?_⟩,⟨2,by decide,?_⟩,⟨5,by decide,?_⟩⟩
 ·rcases lt6 w with rfl | rfl | rfl | rfl | rfl | rfl<;>simp only [crs,g,u,p,r,c,l,f,m,j,s,k,t,n,o]<;>omega
 ·simp only [g,p,r,c,l,f,m]; omega
 ·simp only [g,p,r,c,l,f,m]; omega
 ·simp only [u,j,s,k,t,n,o]; omega
 simp only [u,j,s,k,t,n,o]; omega
theorem azy (x y:Int):su x y (g8 x y 8) 8:=by
 have h:=j8 ((ax x y).mul (c9 (12-8)).conj) (d:=2340*7^(12-8)) (by decide);have e:(c9 (12-8)).conj=⟨39,-55⟩:=by decide
 have z:(2340*7^(12-8):Int)=5618340:=by decide
 have v:c9 (12-8)=⟨-16,55⟩:=by decide
 unfold g8;generalize Ei.round _ _=q at *;rw [e,z] at h;have ex:cx q 8=52*(-16*q.a-55*q.b)+26*(-16*q.b+55*q.a+55*q.b):=by simp only [cx,v,Ei.mul]
 have A:cy q 8=45*(-16*q.b+55*q.a+55*q.b):=by simp only [cy,v,Ei.mul]
 have p:kx 8 0=-1248:=by decide
 have j:ky 8 0=4230:=by decide
 have r:kx 8 1=-4290:=by decide
 have s:ky 8 1=1035:=by decide
 have c:kx 8 2=-3042:=by decide
 have k:ky 8 2=-3195:=by decide
 have l:kx 8 3=1248:=by decide
 have t:ky 8 3=-4230:=by decide
 have f:kx 8 4=4290:=by decide
 have n:ky 8 4=-1035:=by decide
 have m:kx 8 5=3042:=by decide
 have o:ky 8 5=3195:=by decide
 unfold d9 at h;simp only [Ei.mul,ax] at h;have g:∀i,hx q 8 i=3*cx q 8+kx 8 i:=λ i=>nu q 8 i;have u:∀i,hy q 8 i=3*cy q 8+ky 8 i:=λ i=>nt q 8 i;have C:=h.1;have B:=h.2.1;have D:=h.2.2;refine ⟨by omega,λ i w=>?_,⟨1,by decide,?_⟩,⟨4,by decide,?_⟩,⟨3,by decide,?_⟩,⟨0,by decide,?_⟩⟩
 ·rcases lt6 w with rfl | rfl | rfl | rfl | rfl | rfl<;>simp only [crs,g,u,p,r,c,l,f,m,j,s,k,t,n,o]<;>omega
 ·simp only [g,p,r,c,l,f,m]; omega
 ·simp only [g,p,r,c,l,f,m]; omega
 ·simp only [u,j,s,k,t,n,o]; omega
 simp only [u,j,s,k,t,n,o]; omega
theorem azx (x y:Int):su x y (g8 x y 9) 9:=by
 have h:=j8 ((ax x y).mul (c9 (12-9)).conj) (d:=2340*7^(12-9)) (by decide);have e:(c9 (12-9)).conj=⟨19,-18⟩:=by decide
 have z:(2340*7^(12-9):Int)=802620:=by decide
 have v:c9 (12-9)=⟨1,18⟩:=by decide
 unfold g8;generalize Ei.round _ _=q at *;rw [e,z] at h;have ex:cx q 9=52*(1*q.a-18*q.b)+26*(1*q.b+18*q.a+18*q.b):=by simp only [cx,v,Ei.mul]
 have A:cy q 9=45*(1*q.b+18*q.a+18*q.b):=by simp only [cy,v,Ei.mul]
 have p:kx 9 0=78:=by decide
 have j:ky 9 0=1665:=by decide
 have r:kx 9 1=-1404:=by decide
 have s:ky 9 1=900:=by decide
 have c:kx 9 2=-1482:=by decide
 have k:ky 9 2=-765:=by decide
 have l:kx 9 3=-78:=by decide
 have t:ky 9 3=-1665:=by decide
 have f:kx 9 4=1404:=by decide
 have n:ky 9 4=-900:=by decide
 have m:kx 9 5=1482:=by decide
 have o:ky 9 5=765:=by decide
 unfold d9 at h;simp only [Ei.mul,ax] at h;have g:∀i,hx q 9 i=3*cx q 9+kx 9 i:=λ i=>nu q 9 i;have u:∀i,hy q 9 i=3*cy q 9+ky 9 i:=λ i=>nt q 9 i;have C:=h.1;have B:=h.2.1;have D:=h.2.2;refine ⟨by omega,λ i w=>?_,⟨2,by decide,?_⟩,⟨5,by decide,?_⟩,⟨3,by decide,?_⟩,⟨0,by decide,?_⟩⟩
 ·rcases lt6 w with rfl | rfl | rfl | rfl | rfl | rfl<;>simp only [crs,g,u,p,r,c,l,f,m,j,s,k,t,n,o]<;>omega
 ·simp only [g,p,r,c,l,f,m]; omega
 ·simp only [g,p,r,c,l,f,m]; omega
 ·simp only [u,j,s,k,t,n,o]; omega
 simp only [u,j,s,k,t,n,o]; omega
theorem ax1 (x y:Int):su x y (g8 x y 10) 10:=by
 have h:=j8 ((ax x y).mul (c9 (12-10)).conj) (d:=2340*7^(12-10)) (by decide);have e:(c9 (12-10)).conj=⟨8,-5⟩:=by decide
 have z:(2340*7^(12-10):Int)=114660:=by decide
 have v:c9 (12-10)=⟨3,5⟩:=by decide
 unfold g8;generalize Ei.round _ _=q at *;rw [e,z] at h;have ex:cx q 10=52*(3*q.a-5*q.b)+26*(3*q.b+5*q.a+5*q.b):=by simp only [cx,v,Ei.mul]
 have A:cy q 10=45*(3*q.b+5*q.a+5*q.b):=by simp only [cy,v,Ei.mul]
 have p:kx 10 0=234:=by decide
 have j:ky 10 0=585:=by decide
 have r:kx 10 1=-390:=by decide
 have s:ky 10 1=495:=by decide
 have c:kx 10 2=-624:=by decide
 have k:ky 10 2=-90:=by decide
 have l:kx 10 3=-234:=by decide
 have t:ky 10 3=-585:=by decide
 have f:kx 10 4=390:=by decide
 have n:ky 10 4=-495:=by decide
 have m:kx 10 5=624:=by decide
 have o:ky 10 5=90:=by decide
 unfold d9 at h;simp only [Ei.mul,ax] at h;have g:∀i,hx q 10 i=3*cx q 10+kx 10 i:=λ i=>nu q 10 i;have u:∀i,hy q 10 i=3*cy q 10+ky 10 i:=λ i=>nt q 10 i;have C:=h.1;have B:=h.2.1;have D:=h.2.2;refine ⟨by omega,λ i w=>?_,⟨2,by decide,?_⟩,⟨5,by decide,?_⟩,⟨3,by decide,?_⟩,⟨0,by decide,?_⟩⟩
 ·rcases lt6 w with rfl | rfl | rfl | rfl | rfl | rfl<;>simp only [crs,g,u,p,r,c,l,f,m,j,s,k,t,n,o]<;>omega
 ·simp only [g,p,r,c,l,f,m]; omega
 ·simp only [g,p,r,c,l,f,m]; omega
 ·simp only [u,j,s,k,t,n,o]; omega
 simp only [u,j,s,k,t,n,o]; omega
theorem ax0 (x y:Int):su x y (g8 x y 11) 11:=by
 have h:=j8 ((ax x y).mul (c9 (12-11)).conj) (d:=2340*7^(12-11)) (by decide);have e:(c9 (12-11)).conj=⟨3,-1⟩:=by decide
 have z:(2340*7^(12-11):Int)=16380:=by decide
 have v:c9 (12-11)=⟨2,1⟩:=by decide
 unfold g8;generalize Ei.round _ _=q at *;rw [e,z] at h;have ex:cx q 11=52*(2*q.a-1*q.b)+26*(2*q.b+1*q.a+1*q.b):=by simp only [cx,v,Ei.mul]
 have A:cy q 11=45*(2*q.b+1*q.a+1*q.b):=by simp only [cy,v,Ei.mul]
 have p:kx 11 0=156:=by decide
 have j:ky 11 0=180:=by decide
 have r:kx 11 1=-78:=by decide
 have s:ky 11 1=225:=by decide
 have c:kx 11 2=-234:=by decide
 have k:ky 11 2=45:=by decide
 have l:kx 11 3=-156:=by decide
 have t:ky 11 3=-180:=by decide
 have f:kx 11 4=78:=by decide
 have n:ky 11 4=-225:=by decide
 have m:kx 11 5=234:=by decide
 have o:ky 11 5=-45:=by decide
 unfold d9 at h;simp only [Ei.mul,ax] at h;have g:∀i,hx q 11 i=3*cx q 11+kx 11 i:=λ i=>nu q 11 i;have u:∀i,hy q 11 i=3*cy q 11+ky 11 i:=λ i=>nt q 11 i;have C:=h.1;have B:=h.2.1;have D:=h.2.2;refine ⟨by omega,λ i w=>?_,⟨2,by decide,?_⟩,⟨5,by decide,?_⟩,⟨4,by decide,?_⟩,⟨1,by decide,?_⟩⟩
 ·rcases lt6 w with rfl | rfl | rfl | rfl | rfl | rfl<;>simp only [crs,g,u,p,r,c,l,f,m,j,s,k,t,n,o]<;>omega
 ·simp only [g,p,r,c,l,f,m]; omega
 ·simp only [g,p,r,c,l,f,m]; omega
 ·simp only [u,j,s,k,t,n,o]; omega
 simp only [u,j,s,k,t,n,o]; omega
theorem axz (x y:Int):su x y (g8 x y 12) 12:=by
 have h:=j8 ((ax x y).mul (c9 (12-12)).conj) (d:=2340*7^(12-12)) (by decide);have e:(c9 (12-12)).conj=⟨1,0⟩:=by decide
 have z:(2340*7^(12-12):Int)=2340:=by decide
 have v:c9 (12-12)=⟨1,0⟩:=by decide
 unfold g8;generalize Ei.round _ _=q at *;rw [e,z] at h;have ex:cx q 12=52*(1*q.a-0*q.b)+26*(1*q.b+0*q.a+0*q.b):=by simp only [cx,v,Ei.mul]
 have A:cy q 12=45*(1*q.b+0*q.a+0*q.b):=by simp only [cy,v,Ei.mul]
 have p:kx 12 0=78:=by decide
 have j:ky 12 0=45:=by decide
 have r:kx 12 1=0:=by decide
 have s:ky 12 1=90:=by decide
 have c:kx 12 2=-78:=by decide
 have k:ky 12 2=45:=by decide
 have l:kx 12 3=-78:=by decide
 have t:ky 12 3=-45:=by decide
 have f:kx 12 4=0:=by decide
 have n:ky 12 4=-90:=by decide
 have m:kx 12 5=78:=by decide
 have o:ky 12 5=-45:=by decide
 unfold d9 at h;simp only [Ei.mul,ax] at h;have g:∀i,hx q 12 i=3*cx q 12+kx 12 i:=λ i=>nu q 12 i;have u:∀i,hy q 12 i=3*cy q 12+ky 12 i:=λ i=>nt q 12 i;have C:=h.1;have B:=h.2.1;have D:=h.2.2;refine ⟨by omega,λ i w=>?_,⟨2,by decide,?_⟩,⟨0,by decide,?_⟩,⟨4,by decide,?_⟩,⟨1,by decide,?_⟩⟩
 ·rcases lt6 w with rfl | rfl | rfl | rfl | rfl | rfl<;>simp only [crs,g,u,p,r,c,l,f,m,j,s,k,t,n,o]<;>omega
 ·simp only [g,p,r,c,l,f,m]; omega
 ·simp only [g,p,r,c,l,f,m]; omega
 ·simp only [u,j,s,k,t,n,o]; omega
 simp only [u,j,s,k,t,n,o]; omega
theorem a0s (x y:Int) (r:Nat) (a:r<=12):su x y (g8 x y r) r:=by
 match r,a with
 | 0,_=>exact az6 x y
 | 1,_=>exact az5 x y
 | 2,_=>exact az4 x y
 | 3,_=>exact az3 x y
 | 4,_=>exact az2 x y
 | 5,_=>exact az1 x y
 | 6,_=>exact az0 x y
 | 7,_=>exact azz x y
 | 8,_=>exact azy x y
 | 9,_=>exact azx x y
 | 10,_=>exact ax1 x y
 | 11,_=>exact ax0 x y
 | 12,_=>exact axz x y
 | r+13,h=>omega

variable {r:Nat}
theorem lb (a:r<=12):(c9 (12-r)).In 120000:=jq _ (by omega)

def ace:Mk P0 f118:={ x:=_ }
def acf:Mk P0 f117:={ x:=_ }
def acg:Mk P0 f119:={ x:=_ }
def ach:Mk P0 f120:={ x:=_ }
def aer:Mk P0 f79:={ x:=_ }
def agz:Mk P0 f49:={ x:=_ }
theorem am1 (h:z.In n) (b:2<=n):(pr z).In n:=by
 obtain ⟨l,_,a,d,c⟩:=aak z;generalize pr z=q at *;unfold Ei.H at a;unfold Ei.In at *;omega
theorem ag5 (k:Nat) (h:z.In n) (a:2<=n):(anc k z).In n:=by
 induction k generalizing z with
 | zero=>exact h
 | succ k ih=>exact ih (am1 h a)
theorem ap4 (z:Ei):(lft z).In 1:=by
 obtain ⟨l,e,a,_⟩:=aak z;rw [e];exact a.in
theorem aty (z:Ei) (h:z.In 1073741824):a9 P0 118 [z.v] [] (.tup [(pr z).v,(lft z).v]) []:=by
 refine ace.t func118 ?_
 push_cast [ace,Ei.v,Ei.rv,zaa]
 refine b9 (as':=[cd.v]) rfl ?_;refine a6 (ame cd (by unfold Ei.In; decide)) rfl trivial ?_
 push_cast [Ei.v,Ei.rv]
 have b:(z.mul ⟨3,-1⟩).In 9663676416:=(ac2 h (show (⟨3,-1⟩:Ei).In 3 by unfold Ei.In; decide)).mono (by decide);refine b9 (as':=[z.v,Ei.v ⟨3,-1⟩]) rfl ?_;refine a6 (ags _ _ (h.mono (by decide)) (show (⟨3,-1⟩:Ei).In _ by unfold Ei.In; decide) (b.mono (by decide))) rfl trivial ?_
 push_cast [Ei.v,Ei.rv]
 refine b9 (as':=[(z.mul ⟨3,-1⟩).v,int .i64 7]) rfl ?_;refine a6 (aj8 _ 7 (b.mono (by decide)) (by decide)) rfl trivial ?_;rw [show (z.mul ⟨3,-1⟩).round 7=pr z from rfl];have a:(pr z).In 1073741824:=am1 h (by decide);have c:((pr z).mul cd).In 6442450944:=(ac2 a (show cd.In 2 by unfold Ei.In; decide)).mono (by decide)
 push_cast [Ei.v,Ei.rv]
 refine b9 (as':=[(pr z).v,cd.v]) rfl ?_;refine a6 (ags _ _ (a.mono (by decide)) (show cd.In _ by unfold Ei.In; decide) (c.mono (by decide))) rfl trivial ?_
 push_cast [Ei.v,Ei.rv]
 refine b9 (as':=[z.v,((pr z).mul cd).v]) rfl ?_;refine a6 (ayd _ _ (h.mono (by decide)) (c.mono (by decide)) ((ap4 z).mono (by decide))) rfl trivial ?_;rw [show z.sub ((pr z).mul cd)=lft z from rfl]
 push_cast [Ei.v,Ei.rv]
 kernel_rfl
def cel (r:Int) (z:Ei):AV:=.r (.agg [.v (.int .i64 r),.v (.int .i64 z.a),.v (.int .i64 z.b)])
instance (z:Ei) (n:Int):Decidable (z.In n):=inferInstanceAs (Decidable (_/\_))
def ju (r:Int) (z:Ei):Bool:=decide ((0<=r/\r<=12)/\z.In 1073741824)
theorem at0 (r:Int) (z:Ei) (f:z.In M63):a9 P0 117 [cel r z] [] (bl (ju r z)) []:=by
 refine acf.t func117 ?_
 push_cast [acf,cel,zaa]
 by_cases h:0<=r
 ·by_cases g:r<=12
  ·have b:decide (r>=0)=true:=by simp; omega
   have e:decide (r<=12)=true:=by simp; omega
   push_cast [b,e]
   refine a6 (aa8 _ _ f.ok.1 (by decide)) rfl trivial ?_;by_cases d:-1073741824<=z.a/\z.a<=1073741824
   ·rw [decide_eq_true d]
    push_cast
    refine a6 (aa8 _ _ f.ok.2 (by decide)) rfl trivial ?_
    push_cast
    refine pi ?_;simp [ju,Ei.In,h,g,d.1,d.2]
   rw [decide_eq_false d]
   push_cast
   have:ju r z=false:=by simp only [ju,Ei.In]; exact decide_eq_false λ c=>d c.2.1
   rw [this]
  have b:decide (r>=0)=true:=by simp; omega
  have e:decide (r<=12)=false:=by simp; omega
  push_cast [b,e]
  have:ju r z=false:=by simp only [ju,decide_eq_false_iff_not]; omega
  rw [this]
 have b:decide (r>=0)=false:=by simp; omega
 push_cast [b]
 have:ju r z=false:=by simp only [ju,decide_eq_false_iff_not]; omega
 rw [this]
theorem akb (i:Nat) (h:i<6):adk (uni i)=i+1:=by
 rcases lt6 h with rfl | rfl | rfl | rfl | rfl | rfl<;>decide
theorem amf (l:Ei) (h:∀j:Nat,j<6->uni j≠l):adk l=0:=by
 have e:=h 0 (by decide); have b:=h 1 (by decide); have a:=h 2 (by decide); have c:=h 3 (by decide); have f:=h 4 (by decide); have d:=h 5 (by decide);unfold adk;rw [if_neg (show ¬l=⟨1,0⟩ from Ne.symm e),if_neg (show ¬l=⟨0,1⟩ from Ne.symm b),if_neg (show ¬l=⟨-1,1⟩ from Ne.symm a),if_neg (show ¬l=⟨-1,0⟩ from Ne.symm c),if_neg (show ¬l=⟨0,-1⟩ from Ne.symm f),if_neg (show ¬l=⟨1,-1⟩ from Ne.symm d)]
theorem avp (l:Ei):a9 P0 119 [l.v] [] (int .i64 (adk l)) []:=by
 refine acg.t func119 ?_
 push_cast [acg,Ei.v,Ei.rv,zaa]
 refine d3 [(4,false),(1,false)] (λ vs pos d=>∃i:Int,(0<=i/\i<=6)/\(∀j:Nat,(j:Int)<i->uni j≠l)/\vs=[int .i64 i,.ptr 2000000 0 0]/\pos=[]/\d=[.box [int .i64 l.a,int .i64 l.b]])
  (λ vs _ _=>match vs with | .r (.v (.int _ j))::_=>(6-j).toNat | _=>0) rfl ?_ ?_
 ·push_cast
  exact ⟨0,by omega,λ j f=>by omega,rfl⟩
 rintro vs pos d ⟨i,n,f,rfl,rfl,rfl⟩
 push_cast
 refine c7 (λ h=>?_) (λ h=>?_)
 ·simp only [decide_eq_true_eq] at h
  push_cast
  refine g7 (avl i ⟨n.1,h⟩) rfl trivial ?_
  push_cast [Ei.v,Ei.rv]
  refine ⟨by kernel_rfl,c7 (λ c=>?_) (λ c=>?_)⟩
  ·have e:uni i.toNat=l:=by
    simp only [Bool.and_eq_true,beq_iff_eq] at c;exact Ei.ext' c.1 c.2
   push_cast
   rw [<- e,akb _ (by omega),a7 (by omega),show ((i.toNat+1:Nat):Int)=i+1 by omega]
  have e:uni i.toNat≠l:=λ e=>by rw [e] at c; simp at c
  push_cast
  rw [a7 (by omega)];refine ⟨⟨i+1,by omega,λ j m=>?_,rfl⟩,by omega⟩;by_cases g:(j:Int)=i
  ·rw [show j=i.toNat by omega]; exact e
  exact f j (by omega)
 have k:i=6:=by simp at h; omega
 subst k
 push_cast
 rw [amf l λ j o=>f j (by omega)]
 rfl
theorem ax7 (n:Int):a9 P0 120 [int .i64 n] [] (bl (decide (-512<=n/\n<=511))) []:=by
 refine ach.t func120 ?_
 push_cast [ach,zaa]
 refine pi ?_;by_cases b:-512<=n<;>by_cases a:n<512<;>simp [b,a]<;>omega
def aj (r:Nat) (z:Ei) (i:Nat):List AV:=(List.range 13).map λ j=>int .i64 (if i<j/\j<=r then (dg (anc (r-j) z):Int) else 0)
theorem qh (r:Nat) (z:Ei) (i:Nat):(aj r z i).length=13:=by simp [aj]
theorem aqe (r:Nat) (z:Ei):aj r z r=[int .i64 0,int .i64 0,int .i64 0,int .i64 0,int .i64 0,int .i64 0,int .i64 0,int .i64 0,int .i64 0,int .i64 0,int .i64 0,int .i64 0,int .i64 0]:=by
 have:∀j,¬(r<j/\j<=r):=λ j=>by omega
 simp only [aj,this,if_false]
 rfl
theorem aqf (r:Nat) (z:Ei) (i:Nat) (h:1<=i) (g:i<=r) (l:r<=12):b7 (aj r z i) i [int .i64 (dg (anc (r-i) z))]=aj r z (i-1):=by
 have b:=qh r z i;apply List.ext_getElem
 ·simp [b7,b,qh]; omega
 intro j m f;rw [qh] at f;have e:∀(k:Nat) (a:k<(aj r z i).length),(aj r z i)[k]=int .i64 (if i<k/\k<=r then (dg (anc (r-k) z):Int) else 0):=λ k a=>by simp [aj]
 have e':∀(k:Nat) (a:k<(aj r z (i-1)).length),(aj r z (i-1))[k]=int .i64 (if i-1<k/\k<=r then (dg (anc (r-k) z):Int) else 0):=λ k a=>by simp [aj]
 rw [e'];have c:min i 13=i:=by omega
 simp only [b7,List.getElem_append,zar,List.length_take,List.length_singleton,b,List.getElem_take,List.getElem_drop,e,c];by_cases d:j<i
 ·rw [dif_pos (by omega),dif_pos d,if_neg (by omega),if_neg (by omega)]
 by_cases c2:j=i
 ·subst c2;rw [dif_pos (by omega),dif_neg (by omega),if_pos (by omega)];simp
 rw [dif_neg (by omega)];rw [show i+1+(j-(i+1))=j by omega];by_cases n:j<=r
 ·rw [if_pos (by omega),if_pos (by omega)]
 rw [if_neg (by omega),if_neg (by omega)]
theorem ap7 (f:Nat->Int) (l:List Nat):l5 (l.map λ j=>int .i64 (f j))=[]:=by
 induction l with
 | nil=>rfl
 | cons a l ih=>show t5 _++l5 _=[]; rw [ih]; rfl
theorem ar5 (F:Ren) (f:Nat->Int) (l:List Nat):imL F (l.map λ j=>int .i64 (f j))=l.map λ j=>int .i64 (f j):=by
 induction l with
 | nil=>rfl
 | cons a l ih=>show imV F _::imL F _ = _; rw [ih]; rfl
theorem zk (r:Nat) (z:Ei) (i:Nat):l5 (aj r z i)=[]:=ap7 _ _
theorem abp (F:Ren) (r:Nat) (z:Ei) (i:Nat):imL F (aj r z i)=aj r z i:=ar5 F _ _
theorem aoj (r:Nat) (z:Ei) (i:Nat):List.take 13 (aj r z i)=aj r z i:=List.take_of_length_le (by rw [qh]; exact Nat.le_refl _)
def abv (r:Nat) (z:Ei) (i:Nat):List RV:=(List.range 13).map λ j=>.v (.int .i64 (if i<j/\j<=r then (dg (anc (r-j) z):Int) else 0))
theorem ara (ob:Obs) (f:Nat->Int) (l:List Nat):rvs ob (l.map λ j=>int .i64 (f j))=some (l.map λ j=>.v (.int .i64 (f j)),[]):=by
 induction l with
 | nil=>rfl
 | cons a l ih=>show rvs ob (_::_) = _; simp only [rvs,AV.rv,ih]; rfl
theorem arb (ob:Obs) (r:Nat) (z:Ei) (i:Nat):rvs ob (aj r z i)=some (abv r z i,[]):=ara ob _ _
theorem apm (r:Nat) (z:Ei) (i:Nat):aj r z i++List.drop 13 (aj r z i)=aj r z i:=by
 rw [List.drop_of_length_le (by rw [qh]; exact Nat.le_refl _),zaf]
attribute [push_cast high] arb apm
attribute [push_cast high] zk abp aoj qh
theorem asc (r:Nat) (z:Ei) (i:Nat) (b:1<=i) (a:i<=r) (c:r<=12):List.take (0+i*1) (aj r z i)++[int .i64 (adk (lft (anc (r-i) z)))]++List.drop (0+i*1+1) (aj r z i)=aj r z (i-1):=by
 rw [<- aqf r z i b a c,b7,Nat.mul_one,zct]
 rfl
def ag4 (q:Ei):Bool:=decide ((-512<=q.a/\q.a<=511)/\(-512<=q.b/\q.b<=511))
theorem ay7 (r:Int) (z:Ei) (h:ju r z=true):a9 P0 79 [cel r z] [] (.tup [(anc r.toNat z).v,.r (.agg (abv r.toNat z 0)),bl (ag4 (anc r.toNat z))]) []:=by
 refine aer.t func79 ?_;have f:=h;simp only [ju,decide_eq_true_eq] at f;simp only [aer,cel,push_cast,↓reduceIte,reduceCtorEq,zB,zE,zA,zS,zL,zD,zM];refine b9 (as':=[cel r z]) rfl ?_;refine a6 (at0 r z (f.2.mono (by decide))) rfl trivial ?_;rw [h];simp only [push_cast,↓reduceIte,reduceCtorEq,zB,zE,zA,zS,zL,zD,zM];obtain ⟨⟨o,m⟩,l⟩:=f
 refine d3 [(6,false),(5,false),(3,false),(2,false)] (λ vs pos e=>∃i:Int,(0<=i/\i<=r)/\vs=[int .i64 i,.ptr 2000000 0 0,.ptr 2000001 0 0,.ptr 2000002 0 0]/\pos=[]/\e=[.box [int .i64 (anc (r-i).toNat z).a,int .i64 (anc (r-i).toNat z).b],.box (aj r.toNat z i.toNat),.box [int .i64 0,int .i64 0]])
  (λ vs _ _=>match vs with | .r (.v (.int _ j))::_=>j.toNat | _=>0) rfl ?_ ?_
 ·simp only [push_cast,↓reduceIte,reduceCtorEq,zB,zE,zA,zS,zL,zD,zM];refine ⟨r,by omega,?_⟩;rw [aqe,Int.sub_self];exact ⟨rfl,rfl⟩
 rintro vs pos e ⟨i,p,rfl,rfl,rfl⟩;simp only [push_cast,↓reduceIte,reduceCtorEq,zB,zE,zA,zS,zL,zD,zM];refine c7 (λ h=>?_) (λ h=>?_)
 ·simp only [decide_eq_true_eq] at h;simp only [push_cast,↓reduceIte,reduceCtorEq,zB,zE,zA,zS,zL,zD,zM];have k:=ag5 (r-i).toNat l (by decide);refine b9 (as':=[(anc (r-i).toNat z).v]) rfl ?_;refine a6 (aty _ k) rfl trivial ?_;simp only [Ei.v,Ei.rv,push_cast,↓reduceIte,reduceCtorEq,zB,zE,zA,zS,zL,zD,zM];refine v7 (as':=[(lft (anc (r-i).toNat z)).v]) rfl ?_;refine g7 (avp _) rfl trivial ?_;have d:=asc r.toNat z i.toNat (by omega) (by omega) (by omega);rw [show r.toNat-i.toNat=(r-i).toNat by omega] at d;have g:pr (anc (r-i).toNat z)=anc (r-(i-1)).toNat z:=by rw [<- afk,show (r-i).toNat+1=(r-(i-1)).toNat by omega]
  simp only [Ei.v,Ei.rv,d,push_cast,↓reduceIte,reduceCtorEq,zB,zE,zA,zS,zL,zD,zM];rw [show IntKind.i64.wrap (i-1)=i-1 from a7 (by omega),g];refine ⟨by omega,by omega,by kernel_rfl,⟨i-1,by omega,rfl,?_⟩,by omega⟩;rw [show (i-1).toNat=i.toNat-1 by omega]
 have n:i=0:=by simp at h; omega
 subst n;have k:=ag5 r.toNat l (by decide);simp only [push_cast,↓reduceIte,reduceCtorEq,zB,zE,zA,zS,zL,zD,zM];rw [show (r-0).toNat=r.toNat by omega,show zcg 0=0 from rfl];refine ⟨by kernel_rfl,?_⟩;refine g7 (ax7 _) rfl trivial ?_;by_cases c:-512<=(anc r.toNat z).a/\(anc r.toNat z).a<=511
 ·rw [decide_eq_true c];simp only [push_cast,↓reduceIte,reduceCtorEq,zB,zE,zA,zS,zL,zD,zM];refine ⟨by kernel_rfl,?_⟩;refine g7 (ax7 _) rfl trivial ?_;simp only [Ei.v,Ei.rv,push_cast,↓reduceIte,reduceCtorEq,zB,zE,zA,zS,zL,zD,zM];refine ⟨by kernel_rfl,?_⟩;simp [ag4,c.1,c.2];kernel_rfl
 rw [decide_eq_false c];simp only [Ei.v,Ei.rv,push_cast,↓reduceIte,reduceCtorEq,zB,zE,zA,zS,zL,zD,zM];refine ⟨by kernel_rfl,?_⟩;simp only [ag4,c,false_and,decide_false];exact ⟨by kernel_rfl,trivial⟩
theorem azp {r:Int} (c:0<=r) (h:okc r.toNat z):ju r z=true/\ag4 (anc r.toNat z)=true:=by
 obtain ⟨e,a,b,d⟩:=h;simp only [ju,ag4,decide_eq_true_eq];exact ⟨⟨⟨c,by omega⟩,a⟩,b,d⟩
theorem a0e (x y r:Int) (h:inW x y) (a:0<=r/\r<=12):a9 P0 49 [int .i64 x,int .i64 y,int .i64 r] [] (.tup [cel r (g8 x y r.toNat),int .i64 0]) []:=by
 refine agz.t func49 ?_
 push_cast [agz,cel,zaa]
 refine a6 (as8 x y) rfl trivial ?_;rw [decide_eq_true h]
 push_cast
 refine a6 (axq x y r h a) rfl trivial ?_
 push_cast [Ei.v,Ei.rv]

theorem qr {a:Nat} (h:a<2^k):a ||| b*2^k=b*2^k+a:=by
 rw [zaj,<- Nat.shiftLeft_eq,Nat.shiftLeft_add_eq_or_of_lt h]
theorem p8 (n:Nat):0<8^n:=zch (by decide)
theorem avq {a d:Nat} (i:b<2^k) (m:d<8) (p:k+3<=64) (o:(a*8+7)*2^k+b<2^64) :
 (((a*8+7)*2^k+b) &&& (2^64-1-7*2^k)) ||| d*2^k=(a*8+d)*2^k+b:=by
 have n:∀j,Nat.testBit 7 j=decide (j<3):=λ j=>by
  rcases (show j=0\/j=1\/j=2\/3<=j by omega) with rfl | rfl | rfl | c
  ·rfl
  ·rfl
  ·rfl
  rw [zcz (Nat.lt_of_lt_of_le (by decide:7<2^3) (zai (by decide) c))]; simp; omega
 have h:∀j,3<=j->Nat.testBit d j=false:=λ j c=>zcz (Nat.lt_of_lt_of_le (by omega:d<2^3) (zai (by decide) c))
 have r:7*2^k<2^64:=by
  have:2^(k+3)<=2^64:=zai (by decide) p;rw [zac] at this;have:=Nat.two_pow_pos k;omega
 apply Nat.eq_of_testBit_eq;intro j;rw [Nat.testBit_or,Nat.testBit_and,show 2^64-1-7*2^k=2^64-(7*2^k+1) by omega,Nat.testBit_two_pow_sub_succ r];rw [zas _ (2^k),zas 7,zas d,zas (a*8+d)];rw [zcx _ i,zcx _ i,Nat.testBit_two_pow_mul,Nat.testBit_two_pow_mul];by_cases c:j<k
 ·simp [c,Nat.not_le.2 c];intro hx;omega
 rw [if_neg c,if_neg c];have g:k<=j:=by omega
 simp only [g,ge_iff_le,decide_true,zan];rw [show a*8+7=2^3*a+7 by omega,show a*8+d=2^3*a+d by omega,zcx a (show 7<2^3 by decide),zcx a (show d<2^3 from m),n];by_cases l:j-k<3
 ·simp [l]
 rw [h _ (by omega)];simp only [l,if_false,decide_false,zap,zam,zao];by_cases f:j<64
 ·simp [f]
 simp only [f,decide_false,Bool.and_false];apply Eq.symm;apply zcz;have e:(a*8+7)*2^k+b<2^j:=Nat.lt_of_lt_of_le o (zai (by decide) (by omega));have q:2^j=2^(j-k-3)*8*2^k:=by rw [show (8:Nat)=2^3 from rfl,<- zac,<- zac]; congr 1; omega
 rw [q] at e;have:(a*8+7)*2^k<2^(j-k-3)*8*2^k:=by omega
 have:=Nat.lt_of_mul_lt_mul_right this;omega
def il (r:Nat) (z:Ei) (i:Nat):Nat:=((8^i-1)*8^(r-i)+val (r-i) z)*8^(12-r)+(8^(12-r)-1)
theorem atl (r:Nat) (z:Ei) (a:r<=12):il r z r=68719476735:=by
 unfold il;rw [Nat.sub_self,val,Nat.pow_zero,Nat.mul_one,Nat.add_zero,Nat.sub_mul,<- zac,show r+(12-r)=12 by omega,Nat.one_mul];have:8^(12-r)<=8^12:=zai (by decide) (by omega);have:=p8 (12-r);omega
theorem aq0 (k:Nat) (z:Ei):val (k+1) z=dg (anc k z)*8^k+val k z:=by
 induction k generalizing z with
 | zero=>simp [val,anc]
 | succ k ih=>
   rw [val,ih (pr z),val,anc,zcf];generalize dg (anc k (pr z))=e;generalize 8^k=p;generalize val k (pr z)=q;rw [zat,zae];omega
theorem ahv (r:Nat) (z:Ei) (i:Nat) (d:i<=r) (c:r<=12):val (r-i) z*8^(12-r)+(8^(12-r)-1)<2^(36-3*i):=by
 have b:=aod (r-i) z
 have e:2^(36-3*i)=8^(r-i)*8^(12-r):=by
  rw [<- zac,show (8:Nat)=2^3 from rfl,<- zco]; congr 1; omega
 rw [e];have f:=p8 (12-r);generalize 8^(12-r)=p at *;generalize val (r-i) z=v at *;have a:(v+1)*p<=8^(r-i)*p:=zda _ b;rw [zat] at a;omega
theorem aev (r:Nat) (z:Ei) (i:Nat) (b:i<=r) (a:r<=12):il r z i=(8^i-1)*2^(36-3*i)+(val (r-i) z*8^(12-r)+(8^(12-r)-1)):=by
 have e:2^(36-3*i)=8^(r-i)*8^(12-r):=by
  rw [<- zac,show (8:Nat)=2^3 from rfl,<- zco]; congr 1; omega
 unfold il;rw [e,zat,zae,Nat.add_assoc]
theorem aa7 (r:Nat) (z:Ei) (i:Nat) (b:i<=r) (a:r<=12):il r z i<68719476736:=by
 rw [aev r z i b a];have h:=ahv r z i b a
 have e:(8:Nat)^i*2^(36-3*i)=68719476736:=by
  rw [show (8:Nat)=2^3 from rfl,<- zco,<- zac,show 3*i+(36-3*i)=36 by omega]
 rw [Nat.sub_mul,e,Nat.one_mul];have:=Nat.two_pow_pos (36-3*i);have:2^(36-3*i)<=2^36:=zai (by decide) (by omega);omega
theorem ams (r:Nat) (z:Ei) (i:Nat) (j:1<=i) (c:i<=r) (b:r<=12) :
 ((il r z i &&& (2^64-1-7*2^(36-3*i))) ||| dg (anc (r-i) z)*2^(36-3*i))=il r z (i-1):=by
 have g:=aa7 r z i c b;have a:=ahv r z i c b;have k:=abw (anc (r-i) z)
 have h:(8:Nat)^i-1=(8^(i-1)-1)*8+7:=by
  have:(8:Nat)^i=8^(i-1)*8:=by conv=>lhs; rw [show i=i-1+1 by omega,zcf]
  have:=p8 (i-1);omega
 have e:=aev r z i c b;rw [h] at e;rw [e] at g |-;rw [avq a (by omega) (by omega) (by omega),aev r z (i-1) (by omega) b,show r-(i-1)=r-i+1 by omega,aq0];have f:2^(36-3*(i-1))=8*2^(36-3*i):=by rw [show (8:Nat)=2^3 from rfl,<- zac]; congr 1; omega
 have d:8^(r-i)*8^(12-r)=2^(36-3*i):=by
  rw [<- zac,show (8:Nat)=2^3 from rfl,<- zco]; congr 1; omega
 rw [f,<- d];generalize 8^(i-1)-1=A;generalize 8^(r-i)=B;generalize 8^(12-r)=C;generalize dg (anc (r-i) z)=D;generalize val (r-i) z=V;simp only [zat,zae];omega
theorem atk (r:Nat) (z:Ei) (c:r<=12) (A B:Nat) (h:A<1024) (i:B<1024) (d:(anc r z).a+512=A) (f:(anc r z).b+512=B) :
 ((((il r z 0 ||| 1152921504606846976) ||| r*2^56) ||| A*2^46) ||| B*2^36)=ec r z:=by
 have g:=aa7 r z 0 (by omega) c
 have e:ec r z=jb r (anc r z)*2^36+il r z 0:=by
  unfold ec il;rw [zat,zae,<- zac,show r+(12-r)=12 by omega];simp;omega
 rw [e];generalize il r z 0=w at *;rw [zcp,zcp,zcp,zaj,zcp,zcp,zcp]
 rw [zaj (B*2^36),qr (show w<2^36 from g),zaj (A*2^46),qr (show B*2^36+w<2^46 by omega),zaj (r*2^56),qr (show A*2^46+(B*2^36+w)<2^56 by omega),
  show (1152921504606846976:Nat)=1*2^60 from rfl,zaj (1*2^60),qr (show r*2^56+(A*2^46+(B*2^36+w))<2^60 by omega)]
 unfold jb;omega

def tm:Mk P0 f72:={ x:=_ }
structure Til where
 z:Int
 x:Int
 y:Int
 r:Int
theorem at1 (k:Int) (c:0<=k) (b:k<=12):a9 P0 72 [int .i64 k] [] (int .i64 (7^k.toNat)) []:=by
 refine tm.t func72 ?_
 push_cast [tm,zaa]
 have d:=p7 k.toNat (by omega);have a:=aw1 7 k (by decide) (by unfold b8; omega);rw [if_neg (show ¬k<0 by omega)] at a;refine a6 a rfl trivial ?_
 push_cast [sm,if_pos (show b8 (7^k.toNat) by unfold b8; omega)]

def to:Mk P0 f107:={ x:=_ }
def wh:Mk P0 f103:={ x:=_ }
def wv:Mk P0 f69:={ x:=_ }
def vm:Mk P0 f106:={ x:=_ }
def vh:Mk P0 f70:={ x:=_ }
def vg:Mk P0 f134:={ x:=_ }
def ti:Mk P0 f108:={ x:=_ }
def tn:Mk P0 f71:={ x:=_ }
def tj:Mk P0 f38:={ x:=_ }
def vl:Mk P0 f43:={ x:=_ }
theorem ai8 (a b:Int) (d:b8 a) (g:b8 b):a9 P0 107 [int .i64 a,int .i64 b] [] (.tup [int .i64 (if 0<b then a/b else 0),int .i64 (if 0<b then a%b else 0),bl (decide (0<b))]) []:=by
 refine to.t func107 ?_
 push_cast [to,zaa]
 refine c7 (λ h=>?_) (λ h=>?_)
 ·push_cast
  simp at h;have:¬0<b:=by omega
  simp [this]
 push_cast
 simp at h;refine ⟨by omega,by omega,by kernel_rfl,?_⟩;obtain ⟨n,k,i⟩:=ael d h;have j:IntKind.i64.wrap (a.tdiv b)=a.tdiv b:=wrap_i64_tdiv a b d.1 d.2 (by omega);rw [j];refine c7 (λ c=>?_) (λ c=>?_)
 ·push_cast
  simp at c;obtain ⟨e,f⟩:=k c;refine amt (va ?_) (va ?_) (aip ?_)
  ·rw [if_pos h,<- e,a7];unfold b8 at d; rw [e]; omega
  ·rw [if_pos h,<- f,a7];have m:=zag a h;have l:=zah a (show b≠0 by omega);rw [f];unfold b8 at g; omega
  simp [h]
 push_cast
 simp at c;obtain ⟨e,f⟩:=i c;refine amt (va ?_) (va ?_) (aip ?_)
 ·rw [if_pos h,e]
 ·rw [if_pos h,f]
 simp [h]
theorem aw0 (a b:Int) (f:b8 a) (e:b8 b):a9 P0 103 [q7 a,q7 b] [] (.tup [Ei.v ⟨a,b⟩,bl true]) []:=by
 refine wh.t func103 ?_
 push_cast [wh,q7,zaa]
 have d:=f;have c:=e;unfold b8 at d c;refine b9 (as':=[q7 a]) rfl ?_;refine a6 (ag8 a (by omega)) rfl trivial ?_;rw [aba f]
 push_cast
 refine b9 (as':=[q7 b]) rfl ?_;refine a6 (ag8 b (by omega)) rfl trivial ?_;rw [aba e]
 push_cast [Ei.v,Ei.rv]
theorem afw (x y:Ei) (hx:x.In M63) (hy:y.In M63) (c:(x.mul y).In M63):a9 P0 69 [x.v,y.v] [] (.tup [(x.mul y).v,bl true]) []:=by
 refine wv.t func69 ?_
 push_cast [wv,Ei.v,Ei.rv,zaa]
 refine a6 (aaf x.b y.b hx.ok.2 hy.ok.2) rfl trivial ?_
 push_cast [q7]
 refine g7 (aaf x.a y.a hx.ok.1 hy.ok.1) rfl trivial ?_
 push_cast [q7]
 refine v7 (as':=[q7 (x.b*y.b)]) rfl ?_;refine g7 (aew _) rfl trivial ?_
 push_cast [q7]
 refine v7 (as':=[q7 (x.a*y.a),q7 (-(x.b*y.b))]) rfl ?_;refine g7 (af1 _ _) rfl trivial ?_
 push_cast [q7]
 refine g7 (aaf x.a y.b hx.ok.1 hy.ok.2) rfl trivial ?_
 push_cast [q7]
 refine g7 (aaf x.b y.a hx.ok.2 hy.ok.1) rfl trivial ?_
 push_cast [q7]
 refine v7 (as':=[q7 (x.a*y.b),q7 (x.b*y.a)]) rfl ?_;refine g7 (af1 _ _) rfl trivial ?_
 push_cast [q7]
 refine v7 (as':=[q7 (x.a*y.b+x.b*y.a),q7 (x.b*y.b)]) rfl ?_;refine g7 (af1 _ _) rfl trivial ?_
 push_cast [q7]
 refine v7 (as':=[q7 (x.a*y.a + -(x.b*y.b)),q7 (x.a*y.b+x.b*y.a+x.b*y.b)]) rfl ?_;have e:x.a*y.a + -(x.b*y.b)=(x.mul y).a:=by simp only [Ei.mul]; omega
 have e':x.a*y.b+x.b*y.a+x.b*y.b=(x.mul y).b:=rfl;rw [e,e'];refine g7 (aw0 _ _ c.ok.1 c.ok.2) rfl trivial ?_
 push_cast [Ei.v,Ei.rv]
 kernel_rfl
theorem aur (k:Int) (l:0<=k/\k<=12):a9 P0 106 [int .i64 k] [] (.tup [(c9 k.toNat).v,bl true]) []:=by
 refine vm.t func106 ?_;have f:decide (k<0)=false:=by simp; omega
 have c2:decide (k>20)=false:=by simp; omega
 push_cast [vm,zaa,f,c2]
 refine d3 [(5,false),(0,false),(4,false),(2,false)] (λ vs pos c=>∃i:Int,0<=i/\i<=k/\vs=[int .i64 i,int .i64 k,.ptr 2000000 0 0,.ptr 2000001 0 0]/\pos=[]/\c=[.box [int .i64 (c9 i.toNat).a,int .i64 (c9 i.toNat).b],.box [int .i64 0,int .i64 0]])
  (λ vs _ _=>match vs with | .r (.v (.int _ j))::_=>(k-j).toNat | _=>0) rfl ?_ ?_
 ·push_cast
  exact ⟨0,by omega,by omega,rfl,rfl⟩
 rintro vs pos c ⟨i,g,m,rfl,rfl,rfl⟩
 push_cast
 refine c7 (λ h=>?_) (λ h=>?_)
 ·simp only [decide_eq_true_eq] at h
  push_cast
  have e:=jq i.toNat (by omega);have d:=jq (i.toNat+1) (by omega);refine b9 (as':=[(c9 i.toNat).v,cd.v]) rfl ?_;refine a6 (afw _ _ (e.mono (by decide)) (by unfold Ei.In; decide) (d.mono (by decide))) rfl trivial ?_
  push_cast [Ei.v,Ei.rv]
  rw [show IntKind.i64.wrap (i+1)=i+1 from a7 (by omega)];refine ⟨⟨i+1,by omega,by omega,rfl,?_⟩,by omega⟩;rw [show (i+1).toNat=i.toNat+1 by omega]
  rfl
 simp only [decide_eq_false_iff_not] at h;have:i=k:=by omega
 subst this
 push_cast [Ei.v,Ei.rv]
theorem auq (k:Int) (a:0<=k/\k<=12):a9 P0 70 [int .i64 k] [] ((c9 k.toNat).conj.v) []:=by
 refine vh.t func70 ?_
 push_cast [vh,zaa]
 refine a6 (aur k a) rfl trivial ?_;have b:=jq k.toNat (by omega);unfold Ei.In at b
 push_cast [Ei.v,Ei.rv,Ei.conj]
 rw [a7 (by omega),a7 (by omega),Int.zero_sub]
theorem aha (n:Int) (h:b8 n) (a:n≠-9223372036854775808):a9 P0 134 [int .i64 n] [] (int .i64 n.natAbs) []:=by
 refine vg.t func134 ?_
 push_cast [vg,zaa]
 unfold b8 at h;refine c7 (λ hc=>?_) (λ hc=>?_)
 ·simp at hc
  push_cast
  rw [a7 (by omega)];rw [show 0-n=(n.natAbs:Int) by omega]
 simp at hc
 push_cast
 rw [show n=(n.natAbs:Int) by omega];simp
theorem ard (s t d:Int) (f:-9007199254740992<=s/\s<=9007199254740992) (g:-9007199254740992<=t/\t<=9007199254740992):a9 P0 108 [int .i64 s,int .i64 t,int .i64 d] [] (bl (decide (d9 d s t))) []:=by
 refine ti.t func108 ?_
 push_cast [ti,zaa]
 rw [show IntKind.i64.wrap (2*s)=2*s from a7 (by omega),show IntKind.i64.wrap (2*s+t)=2*s+t from a7 (by omega)];refine a6 (aha _ (by unfold b8; omega) (by omega)) rfl trivial ?_;by_cases e:((2*s+t).natAbs:Int)<=d
 ·have a:decide (((2*s+t).natAbs:Int)<=d)=true:=decide_eq_true e
  push_cast [a]
  rw [show IntKind.i64.wrap (2*t)=2*t from a7 (by omega),show IntKind.i64.wrap (s+2*t)=s+2*t from a7 (by omega)];refine a6 (aha _ (by unfold b8; omega) (by omega)) rfl trivial ?_;by_cases c:((s+2*t).natAbs:Int)<=d
  ·have b:decide (((s+2*t).natAbs:Int)<=d)=true:=decide_eq_true c
   push_cast [b]
   rw [show IntKind.i64.wrap (s-t)=s-t from a7 (by omega)];refine a6 (aha _ (by unfold b8; omega) (by omega)) rfl trivial ?_
   push_cast
   refine pi ?_;simp only [decide_eq_true_eq];unfold d9;omega
  have b:decide (((s+2*t).natAbs:Int)<=d)=false:=decide_eq_false c
  push_cast [b]
  rw [decide_eq_false (show ¬d9 d s t by unfold d9; omega)]
 have a:decide (((2*s+t).natAbs:Int)<=d)=false:=decide_eq_false e
 push_cast [a]
 rw [decide_eq_false (show ¬d9 d s t by unfold d9; omega)]
theorem ai6 (u:Ei) (d:Int) (P:u.In 1152921504606846976) (E:1<=d/\d<=1125899906842624):a9 P0 71 [u.v,int .i64 d] [] (.tup [(u.round d).v,bl true]) []:=by
 refine tn.t func71 ?_;have p:=P;unfold Ei.In at p;have N:decide (d<1)=false:=by simp; omega
 have c2:decide (d>1125899906842624)=false:=by simp; omega
 have U:decide (u.a < -1152921504606846976)=false:=by simp; omega
 have L:decide (u.a>1152921504606846976)=false:=by simp; omega
 have S:decide (u.b < -1152921504606846976)=false:=by simp; omega
 have R:decide (u.b>1152921504606846976)=false:=by simp; omega
 have V:b8 u.a:=by unfold b8; omega
 have O:b8 u.b:=by unfold b8; omega
 have H:b8 d:=by unfold b8; omega
 push_cast [tn,Ei.v,Ei.rv,zaa,N,c2,U,L,S,R]
 refine a6 (ai8 _ _ V H) rfl trivial ?_;have m:0<d:=by omega
 push_cast [m,if_true]
 refine a6 (ai8 _ _ O H) rfl trivial ?_
 push_cast [m,if_true]
 have D:0<=u.a%d/\u.a%d<d:=⟨zah _ (by omega),zag _ m⟩
 have I:0<=u.b%d/\u.b%d<d:=⟨zah _ (by omega),zag _ m⟩
 have T:-1152921504606846976<=u.a/d/\u.a/d<=1152921504606846976:=agu p.1 E.1;have Q:-1152921504606846976<=u.b/d/\u.b/d<=1152921504606846976:=agu p.2 E.1;have e:u.round d=⟨u.a/d+(cp d (u.a%d) (u.b%d)).a,u.b/d+(cp d (u.a%d) (u.b%d)).b⟩:=rfl;generalize u.a%d=a at *;generalize u.b%d=b at *;generalize u.a/d=J at *;generalize u.b/d=K at *
 have o:∀i:Int,-1<=i->i<=2->-1125899906842624<=i*d/\i*d<=2251799813685248:=λ i g n=>by
  rcases (show i=-1\/i=0\/i=1\/i=2 by omega) with rfl | rfl | rfl | rfl<;>omega
 refine d3 [(12,false),(1,false),(6,false),(7,false),(9,false),(10,false),(4,false)] (λ vs pos f=>∃i:Int,(-1<=i/\i<=3)/\(∀l c:Int,-1<=l->l<i->-1<=c->c<=2->¬d9 d (a-l*d) (b-c*d))/\vs=[int .i64 i,int .i64 d,int .i64 J,int .i64 a,int .i64 K,int .i64 b,.ptr 2000000 0 0]/\pos=[]/\f=[.box [int .i64 0,int .i64 0]])
  (λ vs _ _=>match vs with | .r (.v (.int _ j))::_=>(3-j).toNat | _=>0) rfl ?_ ?_
 ·push_cast
  exact ⟨-1,by omega,λ l c g n=>by omega,rfl⟩
 rintro vs pos f ⟨i,G,s,rfl,rfl,rfl⟩
 push_cast
 refine c7 (λ h=>?_) (λ h=>?_)
 ·have w:i<=2:=by simpa using h
  have W:=o i G.1 w
  push_cast
  refine d3 [(13,false),(12,false),(1,false),(6,false),(7,false),(9,false),(10,false),(4,false)] (λ vs pos f=>∃k:Int,(-1<=k/\k<=3)/\(∀c:Int,-1<=c->c<k->¬d9 d (a-i*d) (b-c*d))/\vs=[int .i64 k,int .i64 i,int .i64 d,int .i64 J,int .i64 a,int .i64 K,int .i64 b,.ptr 2000000 0 0]/\pos=[]/\f=[.box [int .i64 0,int .i64 0]])
   (λ vs _ _=>match vs with | .r (.v (.int _ j))::_=>(3-j).toNat | _=>0) rfl ?_ ?_
  ·push_cast
   exact ⟨-1,by omega,λ c g n=>by omega,rfl⟩
  rintro vs pos f ⟨k,F,q,rfl,rfl,rfl⟩
  push_cast
  refine c7 (λ h=>?_) (λ h=>?_)
  ·have x:k<=2:=by simpa using h
   have X:=o k F.1 x
   push_cast
   rw [show IntKind.i64.wrap (i*d)=i*d from a7 (by omega),show IntKind.i64.wrap (k*d)=k*d from a7 (by omega),show IntKind.i64.wrap (a-i*d)=a-i*d from a7 (by omega),show IntKind.i64.wrap (b-k*d)=b-k*d from a7 (by omega)];refine a6 (ard _ _ d (by omega) (by omega)) rfl trivial ?_
   push_cast
   refine c7 (λ h=>?_) (λ h=>?_)
   ·have B:d9 d (a-i*d) (b-k*d):=by simpa using h
    have M:=ak0 D I ⟨G.1,w⟩ ⟨F.1,x⟩ B (λ c g n=>q c g n) (λ l c g n y A=>s l c g n y A);rw [M] at e
    push_cast [e,Ei.v,Ei.rv]
    rw [a7 (by omega),a7 (by omega)]
   have B:¬d9 d (a-i*d) (b-k*d):=by simpa using h
   push_cast
   rw [a7 (by omega)];refine ⟨⟨k+1,by omega,λ c g n=>?_,rfl⟩,by omega⟩;by_cases C:c=k
   ·subst C; exact B
   exact q c g (by omega)
  have x:k=3:=by simp at h; omega
  subst x
  push_cast
  rw [a7 (by omega)];refine ⟨⟨i+1,by omega,λ l c g n y A=>?_,rfl⟩,by omega⟩;by_cases z:l=i
  ·subst z; exact q c y (by omega)
  exact s l c g (by omega) y A
 have w:i=3:=by simp at h; omega
 subst w;exact (arv D I s).elim
theorem aq9 (x y:Int):a9 P0 38 [int .i64 x,int .i64 y] [] (bl (decide (inW x y))) []:=by
 refine tj.t func38 ?_
 push_cast [tj,zaa]
 repeat refine And.intro (by simp +contextual) ?_
 refine pi ?_;unfold inW;by_cases b:0<=x<;>by_cases a:x<1073741824<;>by_cases c:0<=y<;>by_cases d:y<1073741824<;>simp [b,a,c,d]
theorem aup (x y r:Int) (h:inW x y) (g:0<=r/\r<=12):a9 P0 43 [int .i64 x,int .i64 y,int .i64 r] [] (.tup [(g8 x y r.toNat).v,bl true]) []:=by
 refine vl.t func43 ?_;have e:decide (r<0)=false:=by simp; omega
 have c2:decide (r>12)=false:=by simp; omega
 push_cast [vl,zaa]
 refine a6 (aq9 x y) rfl trivial ?_;rw [decide_eq_true h]
 push_cast [e,c2]
 have f:(12-r).toNat=12-r.toNat:=by omega
 have a:(12-r).toNat<=12:=by omega
 have c:=h;unfold inW at c;rw [show IntKind.i64.wrap (45*x)=45*x from a7 (by omega),show IntKind.i64.wrap (26*y)=26*y from a7 (by omega),show IntKind.i64.wrap (52*y)=52*y from a7 (by omega),show IntKind.i64.wrap (45*x-26*y)=45*x-26*y from a7 (by omega),show IntKind.i64.wrap (12-r)=12-r from a7 (by omega)];refine a6 (auq (12-r) (by omega)) rfl trivial ?_;have d:=jq (12-r).toNat a;have b:=aqq h a
 push_cast [Ei.v,Ei.rv]
 refine b9 (as':=[(ax x y).v,(c9 (12-r).toNat).conj.v]) rfl ?_;refine a6 (afw _ _ ((anz h).mono (by decide)) ((ahs d).mono (by decide)) (b.mono (by decide))) rfl trivial ?_
 push_cast [Ei.v,Ei.rv]
 rw [show IntKind.i64.wrap (12-r)=12-r from a7 (by omega)];refine g7 (at1 (12-r) (by omega) (by omega)) rfl trivial ?_
 push_cast
 have i:=p7 (12-r).toNat a;rw [show IntKind.i64.wrap (2340*7^(12-r).toNat)=2340*7^(12-r).toNat from a7 (by omega)];refine v7 (as':=[((ax x y).mul (c9 (12-r).toNat).conj).v,int .i64 (2340*7^(12-r).toNat)]) rfl ?_;refine g7 (ai6 _ _ (b.mono (by decide)) (by omega)) rfl trivial ?_
 push_cast [Ei.v,Ei.rv,g8,f]
 kernel_rfl

def vk:Mk P0 f92:={ x:=_ }
def sq:Mk P0 f56:={ x:=_ }
def yt:Mk P0 f55:={ x:=_ }
theorem aum (k:Int) (a:0<=k/\k<6):a9 P0 92 [int .i64 k] [] ((uni k.toNat).v) []:=by
 refine vk.t func92 ?_
 have b:(IntKind.i64.wrap (Int.tmod k 6+6)).tmod 6=k:=by
  rw [zcn a.1,a7 (by omega),zcn (by omega)]; omega
 simp only [vk,b,Ei.v,Ei.rv,push_cast,↓reduceIte,reduceCtorEq,zB,zE,zA,zS,zL,zD,zM];refine ⟨by decide,by decide,a,by omega,?_⟩;rcases (show k=0\/k=1\/k=2\/k=3\/k=4\/k=5 by omega) with rfl | rfl | rfl | rfl | rfl | rfl
 all_goals
  simp only [Int.reduceToNat,Nat.zero_mul,Nat.add_zero,zct,as2,as1,as0,asz,asy,asx,push_cast,↓reduceIte,reduceCtorEq,zB,zE,zA,zS,zL,zD,zM]
theorem ah0 (z:Ei) (h:z.In 1073741824):a9 P0 56 [z.v] [] (.tup [(pr z).v,int .i64 (dg z)]) []:=by
 refine sq.t func56 ?_
 push_cast [sq,Ei.v,Ei.rv,zaa]
 have n:(z.mul ⟨3,-1⟩).In 9663676416:=(ac2 h (show (⟨3,-1⟩:Ei).In 3 by unfold Ei.In; decide)).mono (by decide);have m:(pr z).In 1073741824:=am1 h (by decide);have w:((pr z).mul cd).In 6442450944:=(ac2 m (show cd.In 2 by unfold Ei.In; decide)).mono (by decide);have g:=ap4 z;refine b9 (as':=[z.v,Ei.v ⟨3,-1⟩]) rfl ?_;refine a6 (afw _ _ (h.mono (by decide)) (show (⟨3,-1⟩:Ei).In _ by unfold Ei.In; decide) (n.mono (by decide))) rfl trivial ?_
 push_cast [Ei.v,Ei.rv]
 refine b9 (as':=[(z.mul ⟨3,-1⟩).v,int .i64 7]) rfl ?_;refine a6 (ai6 _ 7 (n.mono (by decide)) (by decide)) rfl trivial ?_;rw [show (z.mul ⟨3,-1⟩).round 7=pr z from rfl]
 push_cast [Ei.v,Ei.rv]
 refine b9 (as':=[(pr z).v,cd.v]) rfl ?_;refine a6 (afw _ _ (m.mono (by decide)) (show cd.In _ by unfold Ei.In; decide) (w.mono (by decide))) rfl trivial ?_;have o:z.a-((pr z).mul cd).a=(lft z).a:=rfl;have k:z.b-((pr z).mul cd).b=(lft z).b:=rfl;unfold Ei.In at g;rw [<- o,<- k] at g
 push_cast [Ei.v,Ei.rv]
 rw [show IntKind.i64.wrap (z.a-((pr z).mul cd).a)=(lft z).a by rw [<- o]; exact a7 (by omega),show IntKind.i64.wrap (z.b-((pr z).mul cd).b)=(lft z).b by rw [<- k]; exact a7 (by omega)];rw [show dg z=adk (lft z) from rfl];generalize lft z=l at *;generalize pr z=q at *
 refine d3 [(11,false),(10,false),(6,false),(2,false)] (λ vs pos d=>∃i:Int,(0<=i/\i<=6)/\(∀j:Nat,(j:Int)<i->uni j≠l)/\vs=[int .i64 i,.ptr 2000000 0 0,.ptr 2000001 0 0,.ptr 2000002 0 0]/\pos=[]/\d=[.box [int .i64 l.a,int .i64 l.b],.box [int .i64 q.a,int .i64 q.b],.box [int .i64 0,int .i64 0]])
  (λ vs _ _=>match vs with | .r (.v (.int _ j))::_=>(6-j).toNat | _=>0) rfl ?_ ?_
 ·push_cast
  exact ⟨0,by omega,λ j f=>by omega,rfl⟩
 rintro vs pos d ⟨i,x,f,rfl,rfl,rfl⟩
 push_cast
 refine c7 (λ h=>?_) (λ h=>?_)
 ·simp only [decide_eq_true_eq] at h
  push_cast
  refine g7 (aum i ⟨x.1,h⟩) rfl trivial ?_
  push_cast [Ei.v,Ei.rv]
  refine ⟨by kernel_rfl,c7 (λ c=>?_) (λ c=>?_)⟩
  ·have e:uni i.toNat=l:=by
    simp only [Bool.and_eq_true,beq_iff_eq] at c;exact Ei.ext' c.1 c.2
   push_cast
   rw [<- e,akb _ (by omega),a7 (by omega),show ((i.toNat+1:Nat):Int)=i+1 by omega]
  have e:uni i.toNat≠l:=λ e=>by rw [e] at c; simp at c
  push_cast
  rw [a7 (by omega)];refine ⟨⟨i+1,by omega,λ j s=>?_,rfl⟩,by omega⟩;by_cases u:(j:Int)=i
  ·rw [show j=i.toNat by omega]; exact e
  exact f j (by omega)
 have p:i=6:=by simp at h; omega
 subst p
 push_cast
 rw [amf l λ j y=>f j (by omega)]
 rfl
theorem aw5 (r:Int) (z:Ei) (u:0<=r) (h:okc r.toNat z):a9 P0 55 [cel r z] [] (bl true) []:=by
 refine yt.t func55 ?_;obtain ⟨n,f,e,g⟩:=h;have d:=f;unfold Ei.In at d;have m:decide (r<0)=false:=by simp; omega
 have c2:decide (r>12)=false:=by simp; omega
 have s:decide (z.a < -1073741824)=false:=by simp; omega
 have k:decide (z.a>1073741824)=false:=by simp; omega
 have p:decide (z.b < -1073741824)=false:=by simp; omega
 have o:decide (z.b>1073741824)=false:=by simp; omega
 push_cast [yt,cel,zaa,m,c2,s,k,p,o]
 refine d3 [(4,false),(1,false),(3,false)] (λ vs pos c=>∃i:Int,(0<=i/\i<=r)/\vs=[int .i64 i,.ptr 2000000 0 0,.ptr 2000001 0 0]/\pos=[]/\c=[.box [int .i64 r,int .i64 z.a,int .i64 z.b],.box [int .i64 (anc i.toNat z).a,int .i64 (anc i.toNat z).b]])
  (λ vs _ _=>match vs with | .r (.v (.int _ j))::_=>(r-j).toNat | _=>0) rfl ?_ ?_
 ·push_cast
  exact ⟨0,by omega,rfl,rfl⟩
 rintro vs pos c ⟨i,w,rfl,rfl,rfl⟩
 push_cast
 refine c7 (λ h=>?_) (λ h=>?_)
 ·simp only [decide_eq_true_eq] at h
  push_cast
  have q:=ag5 i.toNat f (by decide);refine b9 (as':=[(anc i.toNat z).v]) rfl ?_;refine a6 (ah0 _ q) rfl trivial ?_
  push_cast [Ei.v,Ei.rv]
  rw [show IntKind.i64.wrap (i+1)=i+1 from a7 (by omega)];refine ⟨⟨i+1,by omega,rfl,?_⟩,by omega⟩;rw [show (i+1).toNat=i.toNat+1 by omega,afk]
 have l:i=r:=by simp at h; omega
 subst l
 push_cast [ge_iff_le,e.1,e.2,g.1,g.2,decide_true]

def vi:Mk P0 f32:={ x:=_ }
theorem vn {a:Nat} (h:a<18446744073709551616):IntKind.u64.wrap (a:Int)=a:=by rw [IntKind.wrap_u64]; omega
theorem ofI (a:Nat) (h:a<18446744073709551616):(zab IntKind.u64.bits (a:Int)).toNat=a:=by
 rw [show IntKind.u64.bits=64 from rfl,BitVec.toNat_ofInt];omega
theorem abg {a:Nat} (d:a<18446744073709551616) (c:b<18446744073709551616):IntKind.u64.wrap (zab IntKind.u64.bits (a:Int) ||| zab IntKind.u64.bits (b:Int)).toNat=((a ||| b:Nat):Int):=by
 rw [BitVec.toNat_or,ofI a d,ofI b c];exact vn (zcq (n:=64) d c)
theorem aps (x:BitVec 64):(~~~ x).toNat=2^64-1-x.toNat:=BitVec.toNat_not
theorem aso {a:Nat} (c:a<18446744073709551616) (d:b<18446744073709551616):IntKind.u64.wrap (zab IntKind.u64.bits (a:Int) &&& ~~~ zab IntKind.u64.bits (b:Int)).toNat=((a &&& (2^64-1-b):Nat):Int):=by
 rw [BitVec.toNat_and,ofI a c,show (~~~ zab IntKind.u64.bits (b:Int)).toNat=2^64-1-(zab IntKind.u64.bits (b:Int)).toNat from aps _,ofI b d];exact vn (Nat.lt_of_le_of_lt Nat.and_le_left c)
theorem xb {a:Nat} (b:s.toNat=k) (c:k<=63) (h:a*2^k<18446744073709551616):IntKind.u64.wrap ((a:Int)*2^min s.toNat IntKind.u64.bits)=((a*2^k:Nat):Int):=by
 rw [b,show min k IntKind.u64.bits=k from Nat.min_eq_left (by simp [IntKind.bits]; omega),show (a:Int)*2^k=((a*2^k:Nat):Int) by simp];exact vn h
def uw (n:Nat):AV:=int .u64 n
theorem aul (r:Int) (z:Ei) (x:0<=r) (f:okc r.toNat z):a9 P0 32 [cel r z] [] (.tup [uw (ec r.toNat z),int .i64 0]) []:=by
 refine vi.t func32 ?_;have s:=f;obtain ⟨c,D,I,L⟩:=s;simp only [vi,cel,push_cast,↓reduceIte,reduceCtorEq,zB,zE,zA,zS,zL,zD,zM];refine b9 (as':=[cel r z]) rfl ?_;refine a6 (aw5 r z x f) rfl trivial ?_;simp only [push_cast,↓reduceIte,reduceCtorEq,zB,zE,zA,zS,zL,zD,zM];have l:=atl r.toNat z (by omega)
 refine d3 [(6,false),(1,false),(4,false),(5,false)] (λ vs pos e=>∃i:Int,(0<=i/\i<=r)/\vs=[int .i64 i,.ptr 2000000 0 0,.ptr 2000001 0 0,int .u64 (il r.toNat z i.toNat)]/\pos=[]/\e=[.box [int .i64 r,int .i64 z.a,int .i64 z.b],.box [int .i64 (anc (r-i).toNat z).a,int .i64 (anc (r-i).toNat z).b]])
  (λ vs _ _=>match vs with | .r (.v (.int _ j))::_=>j.toNat | _=>0) rfl ?_ ?_
 ·simp only [push_cast,↓reduceIte,reduceCtorEq,zB,zE,zA,zS,zL,zD,zM];refine ⟨r,by omega,?_⟩;rw [l,Int.sub_self];exact ⟨rfl,rfl⟩
 rintro vs pos e ⟨i,K,rfl,rfl,rfl⟩;simp only [push_cast,↓reduceIte,reduceCtorEq,zB,zE,zA,zS,zL,zD,zM];refine c7 (λ h=>?_) (λ h=>?_)
 ·simp only [decide_eq_true_eq] at h;have F:=ag5 (r-i).toNat D (by decide);simp only [push_cast,↓reduceIte,reduceCtorEq,zB,zE,zA,zS,zL,zD,zM];refine b9 (as':=[(anc (r-i).toNat z).v]) rfl ?_;refine a6 (ah0 _ F) rfl trivial ?_;simp only [Ei.v,Ei.rv,push_cast,↓reduceIte,reduceCtorEq,zB,zE,zA,zS,zL,zD,zM];rw [show IntKind.i64.wrap (3*i)=3*i from a7 (by omega),show IntKind.i64.wrap (36-3*i)=36-3*i from a7 (by omega),show IntKind.i64.wrap (i-1)=i-1 from a7 (by omega)];have y:=aa7 r.toNat z i.toNat (by omega) c;have g:=ams r.toNat z i.toNat (by omega) (by omega) c;have J:=abw (anc (r-i).toNat z);have d:(36-3*i).toNat=36-3*i.toNat:=by omega
  have w:2^(36-3*i.toNat)<=2^33:=zai (by decide) (by omega);have H:dg (anc (r-i).toNat z)*2^(36-3*i.toNat)<=6*2^(36-3*i.toNat):=zda _ (by omega);rw [vn (show dg (anc (r-i).toNat z)<18446744073709551616 by omega),show (7:Int)=((7:Nat):Int) from rfl,xb d (by omega) (by omega),xb d (by omega) (by omega),aso (by omega) (by omega),abg (Nat.lt_of_le_of_lt Nat.and_le_left (by omega)) (by omega)];rw [show (r-i).toNat=r.toNat-i.toNat by omega] at *;rw [g];refine ⟨by omega,by omega,by kernel_rfl,⟨i-1,by omega,?_,?_⟩,by omega⟩
  ·rw [show (i-1).toNat=i.toNat-1 by omega]
  rw [show (r-(i-1)).toNat=r.toNat-i.toNat+1 by omega,afk]
 have u:i=0:=by simp at h; omega
 subst u;simp only [push_cast,↓reduceIte,reduceCtorEq,zB,zE,zA,zS,zL,zD,zM];refine ⟨by decide,by decide,by decide,?_⟩;have y:=aa7 r.toNat z 0 (by omega) c;rw [show (r-0).toNat=r.toNat by omega];obtain ⟨A,m⟩:∃A:Nat,(anc r.toNat z).a+512=A:=⟨((anc r.toNat z).a+512).toNat,by omega⟩
 obtain ⟨B,o⟩:∃B:Nat,(anc r.toNat z).b+512=B:=⟨((anc r.toNat z).b+512).toNat,by omega⟩
 have C:=atk r.toNat z c A B (by omega) (by omega) m o;have G:=ag7 r.toNat z f;obtain ⟨R,rfl⟩:∃R:Nat,r=R:=⟨r.toNat,by omega⟩
 rw [zci] at *;rw [m,o,show IntKind.i64.wrap (A:Int)=A from a7 (by omega),show IntKind.i64.wrap (B:Int)=B from a7 (by omega),vn (show A<18446744073709551616 by omega),vn (show B<18446744073709551616 by omega),vn (show R<18446744073709551616 by omega)];rw [xb (k:=56) rfl (by decide) (by omega),xb (k:=46) rfl (by decide) (by omega),xb (k:=36) rfl (by decide) (by omega),show (1152921504606846976:Int)=((1152921504606846976:Nat):Int) from rfl,Int.toNat_zero];have p:il R z 0 ||| 1152921504606846976<18446744073709551616:=zcq (n:=64) (by omega) (by omega);have q:il R z 0 ||| 1152921504606846976 ||| R*2^56<18446744073709551616:=zcq (n:=64) p (by omega)
 have E:il R z 0 ||| 1152921504606846976 ||| R*2^56 ||| A*2^46<18446744073709551616:=zcq (n:=64) q (by omega);rw [abg (by omega) (by omega),abg p (by omega),abg q (by omega),abg E (by omega),C]
 rfl
def ank (w:Nat):Bool:=decide (w/1152921504606846976=1)&&decide (abc w<=12)&&(List.range 13).all λ i=>decide (i=0)||(decide (dgt w i=7) == decide (abc w<i))
theorem ar3 (w:Nat):ank w=true↔isW w:=by
 simp only [ank,isW,Bool.and_eq_true,decide_eq_true_eq,List.all_eq_true,List.mem_range,Bool.or_eq_true,beq_iff_eq,decide_eq_decide];constructor
 ·rintro ⟨⟨b,a⟩,c⟩;refine ⟨b,a,λ i e g=>?_⟩;rcases c i (by omega) with h | h
  ·omega
  exact h
 rintro ⟨b,a,c⟩;refine ⟨⟨b,a⟩,λ i f=>?_⟩;by_cases d:i=0
 ·exact .inl d
 exact .inr (c i (by omega) (by omega))
theorem ap5 (h:okc r z):ank (ec r z)=true:=(ar3 _).2 (aiv r z h).1

def sp:Mk P0 f23:={ x:=_ }
def te:Mk P0 f80:={ x:=_ }
def aej:Mk P0 f50:={ x:=_ }
def afo (x y:Int) (r:Nat):Nat:=ec r (g8 x y r)
theorem aos (x y r:Int) (h:inW x y) (a:0<=r/\r<=12):a9 P0 23 [int .i64 x,int .i64 y,int .i64 r] [] (uw (afo x y r.toNat)) []:=by
 refine sp.t func23 ?_
 push_cast [sp,zaa]
 refine a6 (aup x y r h a) rfl trivial ?_
 push_cast [Ei.v,Ei.rv]
 refine b9 (as':=[cel r (g8 x y r.toNat)]) rfl ?_;refine a6 (aul r (g8 x y r.toNat) a.1 (ae7 x y r.toNat h.1 h.2 (by omega))) rfl trivial ?_
 push_cast [uw]
 rfl
def qx (w i:Nat):Nat:=w/8^(13-i)*8^(13-i)
theorem amr (w i:Nat) (f:1<=i) (g:i<=12):qx w i ||| dgt w i*2^(36-3*i)=qx w (i+1):=by
 unfold qx dgt;have b:13-(i+1)=12-i:=by omega
 have e:13-i=12-i+1:=by omega
 have d:2^(36-3*i)=8^(12-i):=by rw [show (8:Nat)=2^3 from rfl,<- zco]; congr 1; omega
 have a:(8:Nat)^(12-i+1)=2^(3*(12-i+1)):=by rw [show (8:Nat)=2^3 from rfl,<- zco]
 rw [b,e,d,zaj,show w/8^(12-i+1)*8^(12-i+1)=w/8^(12-i+1)*2^(3*(12-i+1)) by rw [a],qr]
 ·rw [<- a,zcf,<- zcv];have c:=Nat.div_add_mod (w/8^(12-i)) 8;generalize w/8^(12-i)=q at *;generalize 8^(12-i)=m at *;rw [zas m 8,<- zae,<- zat,zas (q/8) 8,c]
 rw [<- a,zcf,zas];exact Nat.mul_lt_mul_of_pos_left (Nat.mod_lt _ (by decide)) (p8 _)
theorem aoa (w:Nat):qx w 13=w:=by simp [qx]
theorem an9 (r:Nat) (z:Ei) (f:r<=12) (A B:Nat) (i:A<1024) (j:B<1024) (c:(anc r z).a+512=A) (d:(anc r z).b+512=B) :
 (((1152921504606846976 ||| r*2^56) ||| A*2^46) ||| B*2^36)=qx (ec r z) 1:=by
 unfold qx;rw [show 13-1=12 by rfl,show (8:Nat)^12=68719476736 by decide,aeu r z f,jb,c,d,zci,zci]
 have g:1152921504606846976 ||| r*2^56=(16+r)*2^56:=by
  rw [zaj,show (1152921504606846976:Nat)=1*2^60 by decide,qr (show r*2^56<2^60 by omega)];omega
 have h:(16+r)*2^56 ||| A*2^46=((16+r)*1024+A)*2^46:=by
  rw [zaj,qr (show A*2^46<2^56 by omega)];omega
 have e:((16+r)*1024+A)*2^46 ||| B*2^36=(((16+r)*1024+A)*1024+B)*2^36:=by
  rw [zaj,qr (show B*2^36<2^46 by omega)];omega
 rw [g,h,e]
theorem aqy {w:Nat} (h:w<18446744073709551616) (i:Nat):qx w i<18446744073709551616:=Nat.lt_of_le_of_lt (Nat.div_mul_le_self _ _) h
theorem as7 (w d r:Nat) (c:w<18446744073709551616) (i:d<8) (f:1<=r) (g:r<=12):a9 P0 80 [.ptr 1000000 0 0,int .i64 r,int .u64 d] [.box [uw w]] (.tup []) [.box [uw (w ||| d*2^(36-3*r))]]:=by
 refine te.t func80 ?_
 push_cast [te,uw,zal,zaa]
 have a:IntKind.i64.wrap ((r:Int)-1)=(r:Int)-1:=a7 (by omega);have e:IntKind.i64.wrap (3*((r:Int)-1))=3*((r:Int)-1):=a7 (by omega);have b:IntKind.i64.wrap (33-3*((r:Int)-1))=((36-3*r:Nat):Int):=by rw [a7 (by omega)]; omega
 have j:2^(36-3*r)<=2^33:=zai (by decide) (by omega);have h:d*2^(36-3*r)<=7*2^(36-3*r):=zda _ (by omega);rw [a,e,b,show IntKind.u64.wrap ((36-3*r:Nat):Int)=((36-3*r:Nat):Int) from vn (by omega),xb (zci _) (by omega) (by omega),abg c (by omega)]
 repeat refine sI ?_
 rfl
theorem ase (r:Nat) (z:Ei) (l:List AV) (h:l.length<=13):List.map AV.r (abv r z 0)++List.drop (0+(abv r z 0).length) l=aj r z 0:=by
 rw [List.drop_of_length_le (by simp [abv]; omega),zaf];simp [abv,aj]
theorem asd (r:Nat) (z:Ei) (j:Nat) (b:1<=j) (a:j<=r) (c:r<=12):(aj r z 0).getD j AV.undef=int .i64 (dg (anc (r-j) z)):=by
 rw [List.getD_eq_getElem?_getD];unfold aj;rw [List.getElem?_map,List.getElem?_range (by omega)];simp only [zaq,zak];rw [if_pos (by omega)]
theorem awk (r:Int) (z:Ei) (D:0<=r) (u:okc r.toNat z):a9 P0 50 [cel r z] [] (.tup [uw (ec r.toNat z),int .i64 0]) []:=by
 refine aej.t func50 ?_;obtain ⟨E,s⟩:=azp D u;have w:=ag7 r.toNat z u;obtain ⟨f,I,G,J⟩:=id u;simp only [aej,cel,push_cast,↓reduceIte,reduceCtorEq,zB,zE,zA,zS,zL,zD,zM];refine b9 (as':=[cel r z]) rfl ?_;refine a6 (ay7 r z E) rfl trivial ?_;rw [s];simp only [Ei.v,Ei.rv,push_cast,↓reduceIte,reduceCtorEq,zB,zE,zA,zS,zL,zD,zM];obtain ⟨A,x⟩:∃A:Nat,(anc r.toNat z).a+512=A:=⟨((anc r.toNat z).a+512).toNat,by omega⟩
 obtain ⟨B,y⟩:∃B:Nat,(anc r.toNat z).b+512=B:=⟨((anc r.toNat z).b+512).toNat,by omega⟩
 have g:=an9 r.toNat z f A B (by omega) (by omega) x y;obtain ⟨R,rfl⟩:∃R:Nat,r=R:=⟨r.toNat,by omega⟩
 rw [zci] at *;rw [x,y,show IntKind.i64.wrap (A:Int)=A from a7 (by omega),show IntKind.i64.wrap (B:Int)=B from a7 (by omega),vn (show A<18446744073709551616 by omega),vn (show B<18446744073709551616 by omega),vn (show R<18446744073709551616 by omega)];rw [xb (k:=56) rfl (by decide) (by omega),xb (k:=46) rfl (by decide) (by omega),xb (k:=36) rfl (by decide) (by omega),show (1152921504606846976:Int)=((1152921504606846976:Nat):Int) from rfl];have C:1152921504606846976 ||| R*2^56<18446744073709551616:=zcq (n:=64) (by omega) (by omega);have F:1152921504606846976 ||| R*2^56 ||| A*2^46<18446744073709551616:=zcq (n:=64) C (by omega);rw [abg (by omega) (by omega),abg C (by omega),abg F (by omega),g]
 have q:=qh R z 0;simp only [ase R z [AV.r (RV.v (Value.int IntKind.i64 0)),AV.r (RV.v (Value.int IntKind.i64 0)),AV.r (RV.v (Value.int IntKind.i64 0)),AV.r (RV.v (Value.int IntKind.i64 0)),AV.r (RV.v (Value.int IntKind.i64 0)),AV.r (RV.v (Value.int IntKind.i64 0)),AV.r (RV.v (Value.int IntKind.i64 0)),AV.r (RV.v (Value.int IntKind.i64 0)),AV.r (RV.v (Value.int IntKind.i64 0)),AV.r (RV.v (Value.int IntKind.i64 0)),AV.r (RV.v (Value.int IntKind.i64 0)),AV.r (RV.v (Value.int IntKind.i64 0)),AV.r (RV.v (Value.int IntKind.i64 0))] (by simp)]
 repeat refine And.intro (by first | decide | (simp [abv]; done) | kernel_rfl) ?_
 refine d3 [(9,false),(1,false),(5,false),(7,false),(8,false)] (λ vs pos o=>∃i:Nat,(1<=i/\i<=13)/\vs=[int .i64 i,.ptr 2000000 0 0,.ptr 2000001 0 0,.ptr 2000002 0 0,.fn (.func 80) [.ptr 2000002 0 0] 1]/\pos=[] /\
  o=[.box [int .i64 R,int .i64 z.a,int .i64 z.b],.box (aj R z 0),.box [uw (qx (ec R z) i)]])
  (λ vs _ _=>match vs with | .r (.v (.int _ j))::_=>(13-j).toNat | _=>0) rfl ?_ ?_
 ·simp only [zk,abp,uw,push_cast,↓reduceIte,reduceCtorEq,zB,zE,zA,zS,zL,zD,zM];exact ⟨1,by omega,rfl,rfl⟩
 rintro vs pos o ⟨i,l,rfl,rfl,rfl⟩;simp only [uw,push_cast,↓reduceIte,reduceCtorEq,zB,zE,zA,zS,zL,zD,zM];refine c7 (λ h=>?_) (λ h=>?_)
 ·have c:i<=12:=by simp at h; omega
  have p:=aqy w i;have d:=amr (ec R z) i l.1 c;simp only [push_cast,↓reduceIte,reduceCtorEq,zB,zE,zA,zS,zL,zD,zM];refine c7 (λ hc=>?_) (λ hc=>?_)
  ·have e:R<i:=by simp at hc; omega
   simp only [push_cast,↓reduceIte,reduceCtorEq,zB,zE,zA,zS,zL,zD,zM];refine ⟨by kernel_rfl,?_⟩;refine b9 (as':=[.ptr 1000000 0 0,int .i64 i,int .u64 (7:Nat)]) rfl ?_;refine a6 (as7 (qx (ec R z) i) 7 i p (by decide) l.1 c) rfl ⟨rfl,trivial⟩ ?_;rw [afn R i z e c] at d;rw [d];simp only [zk,abp,uw,push_cast,↓reduceIte,reduceCtorEq,zB,zE,zA,zS,zL,zD,zM];rw [show IntKind.i64.wrap ((i:Int)+1)=((i+1:Nat):Int) by rw [a7 (by omega)]; omega];exact ⟨⟨i+1,by omega,rfl,rfl⟩,by omega⟩
  have e:i<=R:=by simp at hc; omega
  have H:=abw (anc (R-i) z);simp only [zci,zct,Nat.mul_one,asd R z i l.1 e f,q,push_cast,↓reduceIte,reduceCtorEq,zB,zE,zA,zS,zL,zD,zM];rw [vn (show dg (anc (R-i) z)<18446744073709551616 by omega)]
  repeat refine sI ?_
  refine a6 (as7 (qx (ec R z) i) (dg (anc (R-i) z)) i p (by omega) l.1 c) rfl ⟨rfl,trivial⟩ ?_;rw [aiw R i z f l.1 e] at d;rw [d];simp only [zk,abp,uw,push_cast,↓reduceIte,reduceCtorEq,zB,zE,zA,zS,zL,zD,zM];rw [show IntKind.i64.wrap ((i:Int)+1)=((i+1:Nat):Int) by rw [a7 (by omega)]; omega];exact ⟨⟨i+1,by omega,rfl,rfl⟩,by omega⟩
 have m:i=13:=by simp at h; omega
 subst m;simp only [aoa,uw,push_cast,↓reduceIte,reduceCtorEq,zB,zE,zA,zS,zL,zD,zM]

def aco:Mk P0 f75:={ x:=_ }
def aag:Mk P0 f73:={ x:=_ }
def aae:Mk P0 f76:={ x:=_ }
def acn:Mk P0 f47:={ x:=_ }
structure Ky where
 c:Int
 v:Int
 d:Int
deriving DecidableEq
def Ky.rv (k:Ky):RV:=.agg [.v (.int .u64 k.c),.v (.int .i64 k.v),.v (.int .i64 k.d)]
def Ky.av (k:Ky):AV:=.r k.rv
def kl (a b:Ky):Bool:=if a.c≠b.c then decide (a.c<b.c) else if a.v≠b.v then decide (a.v<b.v) else decide (a.d<b.d)
theorem aju (a b:Ky):a9 P0 75 [a.av,b.av] [] (bl (kl a b)) []:=by
 refine aco.t func75 ?_
 push_cast [aco,Ky.av,Ky.rv,kl,zaa]
 refine c7 (λ c=>?_) (λ c=>?_)
 ·push_cast
  simp at c;refine pi ?_;simp [c]
 push_cast
 simp at c;refine c7 (λ d=>?_) (λ d=>?_)
 ·push_cast
  simp at d;refine pi ?_;simp [c,d]
 push_cast
 simp at d;refine pi ?_;simp [c,d]

theorem ai1 (F:FuncId) (A B:List AV) (g:l5 A=[]) (j:l5 B=[]) (f:yj P0 F=true) (p:Nat->Bool) (n r:Nat) (G:n<=maxLen) (O:r<=n)
 (E:∀i,i<r->p i=false) (I:∀i,r<=i->i<n->p i=true)
 (H:∀i:Nat,i<n->a9 P0 F [int .i64 i,.ptr 1000000 0 0,.ptr 1000001 0 0] [.box A,.box B] (bl (p i)) [.box A,.box B]) :
 a9 P0 73 [int .i64 n,.fn (.func F) [.ptr 1000000 0 0,.ptr 1000001 0 0] 0] [.box A,.box B] (int .i64 r) [.box A,.box B]:=by
 refine aag.t func73 ?_;simp only [aag,push_cast,↓reduceIte,reduceCtorEq,zB,zE,zA,zS,zL,zD,zM];have C:=u9;have k:∀F,imL F A=A:=λ F=>ly F A g;have m:∀F,imL F B=B:=λ F=>ly F B j
 refine d3 [(1,false),(5,false),(6,false)] (λ vs pos s=>∃(c d:Int),0<=c/\c<=r/\(r:Int)<=d/\d<=n /\
  vs=[.fn (.func F) [.ptr 1000000 0 0,.ptr 1000001 0 0] 0,int .i64 c,int .i64 d]/\pos=[.box A,.box B]/\s=[])
  (λ vs _ _=>match vs with | [_,.r (.v (.int _ a)),.r (.v (.int _ b))]=>(b-a).toNat | _=>0) rfl ?_ ?_
 ·simp only [g,j,k,m,f,push_cast,↓reduceIte,reduceCtorEq,zB,zE,zA,zS,zL,zD,zM];refine ⟨0,n,by omega,by omega,by omega,by omega,?_⟩;simp
 rintro vs pos s ⟨c,d,N,P,Q,K,rfl,rfl,rfl⟩;simp only [g,j,k,m,f,push_cast,↓reduceIte,reduceCtorEq,zB,zE,zA,zS,zL,zD,zM];refine c7 (λ h=>?_) (λ h=>?_)
 ·simp only [g,j,k,m,f,push_cast,↓reduceIte,reduceCtorEq,zB,zE,zA,zS,zL,zD,zM];have l:c<d:=by simpa using h
  have J:(n:Int)<=9223372036854775807:=by have:=G; simp only [maxLen] at this; omega
  have x:IntKind.u64.wrap (IntKind.i64.wrap (c+d))=c+d:=by rw [IntKind.wrap_i64,IntKind.wrap_u64]; omega
  have L:(c+d).fdiv (2^min (zcg 1) IntKind.u64.bits)=(c+d)/2:=azg (c+d) 1 (by decide);have o:IntKind.i64.wrap ((c+d)/2)=(c+d)/2:=a7 ⟨by omega,by omega⟩;obtain ⟨M,D⟩:∃M:Nat,(c+d)/2=M:=⟨((c+d)/2).toNat,by omega⟩
  rw [D] at o;simp only [x,L,D,o];refine ⟨by decide,a6 (H M (by omega)) rfl ⟨rfl,rfl,trivial⟩ ?_⟩;simp only [g,j,k,m,f,push_cast,↓reduceIte,reduceCtorEq,zB,zE,zA,zS,zL,zD,zM];have z:IntKind.i64.wrap ((M:Int)+1)=M+1:=a7 ⟨by omega,by omega⟩;refine c7 (λ w=>?_) (λ w=>?_)
  ·simp only [g,j,k,m,f,z,push_cast,↓reduceIte,reduceCtorEq,zB,zE,zA,zS,zL,zD,zM];have q:p M=false:=by simpa using w
   have u:M<r:=Nat.lt_of_not_le λ y=>by rw [I M y (by omega)] at q; cases q
   refine ⟨⟨M+1,d,by omega,by omega,by omega,by omega,?_⟩,by omega⟩;simp
  simp only [g,j,k,m,f,push_cast,↓reduceIte,reduceCtorEq,zB,zE,zA,zS,zL,zD,zM];have q:p M=true:=by simpa using w
  have u:r<=M:=Nat.le_of_not_lt λ l=>by rw [E M l] at q; cases q
  refine ⟨⟨c,M,by omega,by omega,by omega,by omega,?_⟩,by omega⟩;simp
 simp only [g,j,k,m,f,push_cast,↓reduceIte,reduceCtorEq,zB,zE,zA,zS,zL,zD,zM];have l:¬c<d:=by simpa using h
 have e:c=r:=by omega
 rw [e]

def z6 (l:List Ky):RV:=.sl 3 (l.map Ky.rv)
def Ky.cs (k:Ky):List AV:=[int .u64 k.c,int .i64 k.v,int .i64 k.d]
theorem avk (l:List Ky) (k q:Ky) (i:Nat) (e:i<l.length) (a:l[i]?=some q) (f:l.length<=maxLen):a9 P0 76 [int .i64 i,.ptr 1000000 0 0,.ptr 1000001 0 0] [.box [.r (z6 l)],.box k.cs]
 (bl (!kl q k)) [.box [.r (z6 l)],.box k.cs]:=by
 refine aae.t func76 ?_
 have b:(l.map Ky.rv).getD ((i:Int)).toNat (.agg [.v (.int .u64 0),.v (.int .i64 0),.v (.int .i64 0)])=.agg [.v (.int .u64 q.c),.v (.int .i64 q.v),.v (.int .i64 q.d)]:=by
  simp [List.getD,a,Ky.rv]
 push_cast [aae,z6,Ky.cs,zaa,zad,b]
 refine And.intro ⟨by omega,by omega⟩ ?_;refine g7 (aju q k) rfl trivial ?_
 push_cast
 kernel_rfl
structure Plc (l:List Ky) (k:Ky) (r:Nat):Prop where
 le:r<=l.length
 lo:∀(i:Nat) (q:Ky),i<r->l[i]?=some q->kl q k=true
 hi:∀(i:Nat) (q:Ky),r<=i->l[i]?=some q->kl q k=false
theorem ayc (l:List Ky) (k:Ky) (r:Nat) (f:Plc l k r) (j:l.length<=maxLen):a9 P0 47 [.r (z6 l),k.av] []
 (.tup [int .i64 r,bl (decide (l[r]?=some k))]) []:=by
 refine acn.t func47 ?_
 have o:∀i:Nat,i<l.length->a9 P0 76 [int .i64 i,.ptr 1000000 0 0,.ptr 1000001 0 0] [.box [.r (z6 l)],.box k.cs] (bl ((λ i=>match l[i]? with | some q=>!kl q k | none=>true) i)) [.box [.r (z6 l)],.box k.cs]:=λ i b=>by
  have a:l[i]?=some l[i]:=by simp [b]
  simp only [a];exact avk l k _ i b a j
 have u:=ai1 76 [.r (z6 l)] k.cs rfl rfl rfl (λ i=>match l[i]? with | some q=>!kl q k | none=>true) l.length r j f.le (λ i b=>by
  have a:l[i]?=some (l[i]'(by have:=f.le; omega)):=by simp [show i<l.length by have:=f.le; omega]
  simp only [a,f.lo i _ b a]; rfl) (λ i b p=>by
  have a:l[i]?=some l[i]:=by simp [p]
  simp only [a,f.hi i _ b a]; rfl) o
 push_cast [acn,z6,Ky.av,Ky.rv,zaa,zad]
 refine a6 u rfl ⟨rfl,rfl,trivial⟩ ?_;obtain ⟨q,e⟩:∃q:Ky,q=(l[r]?).getD ⟨0,0,0⟩:=⟨_,rfl⟩
 have s:(l.map Ky.rv).getD ((r:Int)).toNat (.agg [.v (.int .u64 0),.v (.int .i64 0),.v (.int .i64 0)])=.agg [.v (.int .u64 q.c),.v (.int .i64 q.v),.v (.int .i64 q.d)]:=by
  rw [e];rcases hr:l[r]? with _ | g<;>simp [List.getD,hr,Ky.rv]
 push_cast [z6,Ky.cs,zad,s]
 refine ⟨λ h=>⟨by omega,by simpa using h⟩,by kernel_rfl,?_⟩;congr 4;rcases hr:l[r]? with _ | g
 ·have:¬r<l.length:=λ h=>by simp [h] at hr
  simp [this]
 have n:=(List.getElem?_eq_some_iff.1 hr).1;have m:q=g:=by rw [e,hr]; rfl
 subst m;simp [n];cases q; cases k;simp
 rfl

def sx:Mk P0 f74:={ x:=_ }
def wc:Mk P0 f46:={ x:=_ }
def t9 (ns:List (List Ky)) (n:Int):List RV:=[.sl 1 (ns.map z6),.v (.int .i64 n)]
theorem au5 (ns:List (List Ky)) (n:Int) (k q:Ky) (x:List Ky) (i:Nat) (f:i<ns.length) (hx:ns[i]?=some (q::x)) (g:ns.length<=maxLen) (b:(q::x).length<=maxLen) :
 a9 P0 74 [int .i64 i,.ptr 1000000 0 0,.ptr 1000001 0 0] [.box k.cs,.box [.rp (t9 ns n)]] (bl (kl k q)) [.box k.cs,.box [.rp (t9 ns n)]]:=by
 refine sx.t func74 ?_
 have e:(ns.map z6).getD ((i:Int)).toNat (.sl 3 [])=.sl 3 (q.rv::x.map Ky.rv):=by
  simp [List.getD,hx,z6]
 have a:(q.rv::x.map Ky.rv).getD (zcg 0) (.agg [.v (.int .u64 0),.v (.int .i64 0),.v (.int .i64 0)])=.agg [.v (.int .u64 q.c),.v (.int .i64 q.v),.v (.int .i64 q.d)]:=rfl;simp only [sx,t9,Ky.cs,e,a,push_cast,↓reduceIte,reduceCtorEq,zB,zE,zA,zS,zL,zD,zM];refine And.intro ⟨by omega,by omega⟩ (And.intro ⟨by omega,by omega⟩ ?_);refine g7 (aju k q) rfl trivial ?_;simp only [push_cast,↓reduceIte,reduceCtorEq,zB,zE,zA,zS,zL,zD,zM];kernel_rfl
structure Nod (ns:List (List Ky)) (k:Ky) (r:Nat):Prop where
 le:r<=ns.length
 len:ns.length<=maxLen
 ne:∀(i:Nat) (l:List Ky),ns[i]?=some l->l≠[]/\l.length<=maxLen
 lo:∀(i:Nat) (q:Ky) (x:List Ky),i<r->ns[i]?=some (q::x)->kl k q=false
 hi:∀(i:Nat) (q:Ky) (x:List Ky),r<=i->ns[i]?=some (q::x)->kl k q=true
def am5 (ns:List (List Ky)) (k:Ky) (i:Nat):Bool:=match ns[i]? with
 | some (q::_)=>kl k q
 | _=>true
theorem Nod.at_ {ns:List (List Ky)} {k:Ky} (h:Nod ns k r) (d:i<ns.length):∃q x,ns[i]?=some (q::x)/\(q::x).length<=maxLen:=by
 have a:ns[i]?=some ns[i]:=by simp [d]
 obtain ⟨c,b⟩:=h.ne i _ a;rcases hx:ns[i] with _ | ⟨q,x⟩
 ·exact absurd hx c
 rw [hx] at a b;exact ⟨q,x,a,b⟩
theorem apt (ns:List (List Ky)) (n:Int) (k:Ky) (r:Nat) (h:Nod ns k r):a9 P0 46 [.rp (t9 ns n),k.av] [] (int .i64 ((r-1:Nat):Int)) []:=by
 refine wc.t func46 ?_
 have f:=ai1 74 k.cs [.rp (t9 ns n)] rfl rfl rfl (am5 ns k) ns.length r h.len h.le (λ i c=>by
  obtain ⟨q,x,a,_⟩:=h.at_ (i:=i) (by have:=h.le; omega);simp only [am5,a,h.lo i q x c a]) (λ i c b=>by
  obtain ⟨q,x,a,_⟩:=h.at_ b;simp only [am5,a,h.hi i q x c a]) (λ i b=>by
  obtain ⟨q,x,a,d⟩:=h.at_ b;simp only [am5,a]
  exact au5 ns n k q x i b a h.len d)
 push_cast [wc,t9,Ky.av,Ky.rv,zaa,zad]
 refine a6 f rfl ⟨rfl,rfl,trivial⟩ ?_
 push_cast [t9,Ky.cs,zad]
 have g:(ns.length:Int)<=9223372036854775807:=by have:=h.len; simp only [maxLen] at this; omega
 have e:=h.le;rw [a7 ⟨by omega,by omega⟩,show max ((r:Int)-1) 0=((r-1:Nat):Int) by omega]


end
end Go.Ev
